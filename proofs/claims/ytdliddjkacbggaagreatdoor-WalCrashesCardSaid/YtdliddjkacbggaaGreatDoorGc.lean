/-
  Contracts of functions of the program, and plain laws: put together of several texts.
-/
import Derived.Lib.SplitLaws
import Derived.Test.YtdliddjkacbggaaGreatDoorShelf
import Derived.Test.YtdliddjkacbggaaGreatDoorMcl
import Derived.Test.YtdliddjkacbggaaGreatDoorGa
import Derived.Lib.Bytealg
import Derived.Test.YtdliddjkacbggaaGreatDoorGb
import Derived.Lib.AppendZerosOnto
/-
  The disk: the library's functions on texts; what a path is, and its directory.
-/
namespace Go.Proofs.YtdliddjkacbggaaGreatDoor.SimA
open Go.Proofs.YtdliddjkacbggaaGreatDoor.E Go.RowKit
set_option maxRecDepth 20000
set_option linter.unusedVariables false
set_option linter.unusedSimpArgs false
set_option linter.unusedSectionVars false

/-! ### contracts of the library's, as this engine's -/
theorem Ct.still {P : Program} {w0 : World} {f : FuncId} {args : Array Value} {H : Heap} {v : Value} (h : ∀ w, At w0 H w → Calls P f args w fun e w' => e = .returned v ∧ w' = w) : Ct P w0 f args H (fun r H2 => r = v ∧ Nw H H2) :=
  fun w ha => (h w ha).mono (fun e w' ⟨he, hw⟩ => ⟨v, H, he, by rw [hw]; exact ha, rfl, Nw.refl _⟩)
/-- the library's variable holds some number -/
abbrev MX (m : Int) (H : Heap) : Prop := PtF (fun b => b = 0) H ⟨0, 0, none⟩ [.int .i64 m]
theorem MX.cell {m : Int} {H : Heap} {w0 w : World} (h : MX m H) (ha : At w0 H w) : w.cell? ⟨0, 0, none⟩ = some (.int .i64 m) := by
  have := h.pt.cells 0 (.int .i64 m) rfl
  rw [ha.cell]; exact this
theorem contains_ct (s sub : List UInt8) (mx_ : Int) (w0 : World) (H0 : Heap) (mx : MX mx_ H0) (hs : s.length < 4294967281) : Ct Tryz.prog w0 68 #[Str s, Str sub] H0 (fun r H2 => r = .bool (Lib.contains s sub) ∧ Nw H0 H2) :=
  Ct.still (fun w ha => by
    have h : Calls Tryz.prog 68 #[Str s, Str sub] w fun e w' => e = .returned (.bool (Lib.contains s sub)) ∧ w' = w := Any.strings_Contains Tryz.lays144 ⟨s.toArray⟩ ⟨sub.toArray⟩ mx_ w (by simpa [ByteArray.size] using hs) (mx.cell ha)
    exact h)

theorem idx_ct (s : List UInt8) (c : UInt8) (w0 : World) (H0 : Heap) : Ct Tryz.prog w0 69 #[Str s, .int .u8 c.toNat] H0 (fun r H2 => r = .int .i64 (Lib.indexByte s c) ∧ Nw H0 H2) :=
  Ct.still (fun w ha => by
    have h : Calls Tryz.prog 69 #[Str s, .int .u8 c.toNat] w fun e w' => e = .returned (.int .i64 (Lib.indexByte s ((c.toNat : Int)).toNat.toUInt8)) ∧ w' = w := Any.strings_IndexByte Tryz.lays137 ⟨s.toArray⟩ c.toNat w
    have e : ((c.toNat : Int)).toNat.toUInt8 = c := by simp
    rw [e] at h; exact h)

/-- a path's last name -/
def lastL (p : List UInt8) : List UInt8 := (p.reverse.takeWhile (fun c => c ≠ 47)).reverse
theorem lastL_at {p : List UInt8} {j : Nat} (hj : j ≤ p.length) (h1 : ∀ q (h : q < p.length), j ≤ q → p[q] ≠ 47) (h2 : ∀ h : 0 < j, p[j - 1]'(by omega) = 47) : lastL p = p.drop j := by
  have e : p.reverse = (p.drop j).reverse ++ (p.take j).reverse := by rw [← List.reverse_append, List.take_append_drop]
  have hd : ∀ c ∈ (p.drop j).reverse, (decide (c ≠ 47)) = true := by
    intro c hc
    rw [List.mem_reverse, List.mem_iff_getElem] at hc
    obtain ⟨q, hq, rfl⟩ := hc
    rw [List.getElem_drop]
    simpa using h1 (j + q) (by simpa using (by rw [List.length_drop] at hq; omega)) (by omega)
  unfold lastL
  rw [e, List.takeWhile_append_of_pos hd]
  rcases Nat.eq_zero_or_pos j with h0 | h0
  · subst h0; simp
  · have e2 : (p.take j).reverse = 47 :: (p.take (j - 1)).reverse := by
      have : p.take j = p.take (j - 1) ++ [47] := by
        have h3 := List.take_succ_eq_append_getElem (l := p) (i := j - 1) (by omega)
        rw [show j - 1 + 1 = j by omega, h2 h0] at h3
        exact h3
      rw [this]; simp
    rw [e2, List.takeWhile_cons]; simp


theorem Ct.still2 {P : Program} {w0 : World} {f : FuncId} {args : Array Value} {H : Heap} {v : Value} (h : ∀ w, At w0 H w → Calls P f args w fun e w' => e = .returned v ∧ (w' = w ∨ w' = w.drew)) : Ct P w0 f args H (fun r H2 => r = v ∧ Nw H H2) :=
  fun w ha => (h w ha).mono (fun e w' ⟨he, hw⟩ => by
    rcases hw with rfl | rfl
    · exact ⟨v, H, he, ha, rfl, Nw.refl _⟩
    · exact ⟨v, H, he, ha.drew, rfl, Nw.refl _⟩)
theorem trim_ct (s : List UInt8) (w0 : World) (H0 : Heap) (hs : s.length ≤ 9223372036854775807) : Ct Tryz.prog w0 67 #[Str s, Str [47]] H0 (fun r H2 => r = Str (Lib.trimB s 47) ∧ Nw H0 H2) :=
  Ct.still2 (fun w ha => by
    have h : Calls Tryz.prog 67 #[Str s, Str [47]] w fun e w' => e = .returned (.string ⟨(Lib.trimB (⟨s.toArray⟩ : ByteArray).data.toList 47).toArray⟩) ∧ (w' = w ∨ w' = w.drew) := Any.strings_Trim_one Tryz.lays160 ⟨s.toArray⟩ 47 (by decide) w (by simpa [ByteArray.size] using hs)
    exact h)
def dd : List UInt8 → Bool
  | [] => false
  | [_] => false
  | a :: b :: l => (a == 47 && b == 47) || dd (b :: l)
theorem dd_index : ∀ s : List UInt8, (0 ≤ Lib.index s [47, 47]) ↔ dd s = true
  | [] => by simp [Lib.index, dd]
  | [a] => by simp [Lib.index, dd, List.isPrefixOf]
  | a :: b :: l => by
    have ih := dd_index (b :: l)
    have hg := Lib.index_ge (b :: l) [47, 47]
    rw [Lib.index]
    by_cases h : a = 47 ∧ b = 47
    · obtain ⟨rfl, rfl⟩ := h
      simp [List.isPrefixOf, dd]
    · have hp : ([47, 47] : List UInt8).isPrefixOf (a :: b :: l) = false := by
        simp only [List.isPrefixOf, Bool.and_true, Bool.and_eq_false_iff, beq_eq_false_iff_ne]
        by_cases h1 : a = 47
        · exact .inr (fun e => h ⟨h1, e.symm⟩)
        · exact .inl (fun e => h1 e.symm)
      have hd : dd (a :: b :: l) = dd (b :: l) := by
        rw [dd]
        have : (a == 47 && b == 47) = false := by
          rw [Bool.and_eq_false_iff, beq_eq_false_iff_ne, beq_eq_false_iff_ne]
          by_cases h1 : a = 47
          · exact .inr (fun e => h ⟨h1, e⟩)
          · exact .inl h1
        rw [this, Bool.false_or]
      rw [hp, hd, ← ih]
      simp only [Bool.false_eq_true, if_false]
      by_cases hm : Lib.index (b :: l) [47, 47] = -1
      · simp [hm]
      · simp [hm]; omega
theorem dd_iff : ∀ s : List UInt8, dd s = true ↔ ∃ i, i + 1 < s.length ∧ s.getD i 0 = 47 ∧ s.getD (i + 1) 0 = 47
  | [] => by simp [dd]
  | [a] => by simp [dd]
  | a :: b :: l => by
    rw [dd, Bool.or_eq_true, dd_iff (b :: l), Bool.and_eq_true, beq_iff_eq, beq_iff_eq]
    constructor
    · rintro (⟨h1, h2⟩ | ⟨i, h1, h2, h3⟩)
      · exact ⟨0, by simp, by simpa using h1, by simpa using h2⟩
      · exact ⟨i + 1, by simp at h1 ⊢; omega, by simpa using h2, by simpa using h3⟩
    · rintro ⟨i, h1, h2, h3⟩
      cases i with
      | zero => exact .inl ⟨by simpa using h2, by simpa using h3⟩
      | succ i => exact .inr ⟨i, by simp at h1 ⊢; omega, by simpa using h2, by simpa using h3⟩
theorem slk_iff {p : List UInt8} (h0 : 1 ≤ p.length) : slk p = true ↔ p.getD 0 0 ≠ 47 ∧ p.getD (p.length - 1) 0 ≠ 47 ∧ dd p = false := by
  unfold slk
  rw [List.all_eq_true]
  simp only [List.mem_range, Bool.not_eq_true', Bool.and_eq_false_iff, beq_eq_false_iff_ne, Bool.or_eq_false_iff]
  constructor
  · intro h
    refine ⟨?_, ?_, ?_⟩
    · rcases h 0 (by omega) with h | h
      · exact h
      · exact absurd rfl h.1.1
    · rcases h (p.length - 1) (by omega) with h | h
      · exact h
      · exact absurd rfl h.1.2
    · cases hd : dd p with
      | false => rfl
      | true =>
        obtain ⟨i, h1, h2, h3⟩ := (dd_iff p).1 hd
        rcases h (i + 1) h1 with h | h
        · exact absurd h3 h
        · exact absurd h2 (by simpa using h.2)
  · rintro ⟨h1, h2, h3⟩ i hi
    by_cases e : p.getD i 0 = 47
    · refine .inr ⟨⟨fun e0 => ?_, fun e0 => ?_⟩, fun e0 => ?_⟩
      · subst e0; exact h1 e
      · subst e0; exact h2 e
      · have : dd p = true := (dd_iff p).2 ⟨i - 1, by
          rcases Nat.eq_zero_or_pos i with h | h
          · subst h; exact absurd e h1
          · omega, e0, by
          rcases Nat.eq_zero_or_pos i with h | h
          · subst h; exact absurd e h1
          · rw [show i - 1 + 1 = i by omega]; exact e⟩
        rw [h3] at this; cases this
    · exact .inl e
theorem trimB_iff {p : List UInt8} (h0 : 1 ≤ p.length) : Lib.trimB p 47 = p ↔ p.getD 0 0 ≠ 47 ∧ p.getD (p.length - 1) 0 ≠ 47 := by
  have hL : ∀ q : List UInt8, (Lib.trimLeftB q 47).length ≤ q.length := fun q => (List.dropWhile_suffix _).length_le
  have hR : ∀ q : List UInt8, (Lib.trimRightB q 47).length ≤ q.length := fun q => by unfold Lib.trimRightB; rw [List.length_reverse]; have := (List.dropWhile_suffix (l := q.reverse) (fun x : UInt8 => x == 47)).length_le; rwa [List.length_reverse] at this
  have hl1 : ∀ q : List UInt8, 1 ≤ q.length → (Lib.trimLeftB q 47 = q ↔ q.getD 0 0 ≠ 47) := by
    intro q hq
    cases q with
    | nil => simp at hq
    | cons a l =>
      unfold Lib.trimLeftB
      rw [List.dropWhile_cons]
      by_cases ha : a = 47
      · have : (List.dropWhile (fun x : UInt8 => x == 47) l).length ≤ l.length := (List.dropWhile_suffix _).length_le
        simp only [ha, beq_self_eq_true, if_true, List.getD_cons_zero, ne_eq, not_true, iff_false]
        intro e
        rw [e] at this
        simp only [List.length_cons] at this
        omega
      · simp [ha]
  have hr1 : Lib.trimRightB p 47 = p ↔ p.getD (p.length - 1) 0 ≠ 47 := by
    have h := hl1 p.reverse (by rw [List.length_reverse]; omega)
    have e1 : p.reverse.getD 0 0 = p.getD (p.length - 1) 0 := by
      simp [List.getD, List.getElem?_reverse (show 0 < p.length by omega)]
    rw [← e1, ← h]
    unfold Lib.trimRightB Lib.trimLeftB
    constructor
    · intro h; have := congrArg List.reverse h; rwa [List.reverse_reverse] at this
    · intro h; rw [h, List.reverse_reverse]
  unfold Lib.trimB
  constructor
  · intro h
    have e : Lib.trimRightB p 47 = p := by
      refine (List.IsPrefix.eq_of_length_le ?_ ?_)
      · unfold Lib.trimRightB
        rw [← List.reverse_suffix, List.reverse_reverse]
        exact List.dropWhile_suffix _
      · have h1 := congrArg List.length h
        have h2 := hL (Lib.trimRightB p 47)
        omega
    rw [e] at h
    exact ⟨(hl1 p h0).1 h, hr1.1 e⟩
  · rintro ⟨h1, h2⟩
    rw [hr1.2 h2]; exact (hl1 p h0).2 h1
theorem name_iff (p : List UInt8) : nameB p = true ↔ p ≠ [] ∧ p.length ≤ 100 ∧ Lib.trimB p 47 = p ∧ Lib.contains p [47, 47] = false ∧ ∀ i (h : i < p.length), okc p[i] = true := by
  have hc : Lib.contains p [47, 47] = dd p := by
    unfold Lib.contains
    rw [Bool.eq_iff_iff, decide_eq_true_iff]; exact dd_index p
  unfold nameB
  simp only [Bool.and_eq_true, decide_eq_true_eq, List.all_eq_true]
  rw [hc]
  constructor
  · rintro ⟨⟨⟨h1, h2⟩, h3⟩, h4⟩
    have h5 := (slk_iff h1).1 h4
    exact ⟨fun e => by rw [e] at h1; simp at h1, h2, (trimB_iff h1).2 ⟨h5.1, h5.2.1⟩, h5.2.2, fun i h => h3 _ (List.getElem_mem h)⟩
  · rintro ⟨h1, h2, h3, h4, h5⟩
    have h0 : 1 ≤ p.length := by cases p with
      | nil => exact absurd rfl h1
      | cons a l => simp
    have h6 := (trimB_iff h0).1 h3
    refine ⟨⟨⟨h0, h2⟩, fun x hx => ?_⟩, (slk_iff h0).2 ⟨h6.1, h6.2, h4⟩⟩
    obtain ⟨i, hi, rfl⟩ := List.mem_iff_getElem.1 hx
    exact h5 i hi
theorem nameF {p : List UInt8} (h : ¬ (p ≠ [] ∧ p.length ≤ 100 ∧ Lib.trimB p 47 = p ∧ Lib.contains p [47, 47] = false ∧ ∀ i (h : i < p.length), okc p[i] = true)) : nameB p = false := by
  cases hn : nameB p with
  | false => rfl
  | true => exact absurd ((name_iff p).1 hn) h
theorem okc_iff (c : UInt8) : okc c = true ↔ (97 ≤ c.toNat ∧ c.toNat ≤ 122) ∨ (48 ≤ c.toNat ∧ c.toNat ≤ 57) ∨ 0 ≤ Lib.indexByte [46, 95, 45, 47] c := by
  have h : ∀ n : Fin 256, (okc (UInt8.ofNat n.val) = decide ((97 ≤ n.val ∧ n.val ≤ 122) ∨ (48 ≤ n.val ∧ n.val ≤ 57) ∨ 0 ≤ Lib.indexByte [46, 95, 45, 47] (UInt8.ofNat n.val))) := by decide +kernel
  have := h ⟨c.toNat, c.toNat_lt⟩
  simp only [UInt8.ofNat_toNat] at this
  rw [this, decide_eq_true_iff]
theorem head_of {s : List UInt8} {j : Nat} (hj : j ≤ s.length) (h : lastL s = s.drop j) : headP s = s.take (j - 1) := by
  unfold headP
  have h1 := congrArg List.length h
  unfold lastL at h1
  rw [List.length_reverse, List.length_drop] at h1
  rw [h1]; congr 1; omega

theorem lix_ct0 (s : List UInt8) (w0 : World) (H0 : Heap)
    (hl : s.length ≤ 9223372036854775807) :
    Ct Tryz.prog w0 118 #[Str s, .int .u8 (47 : UInt8).toNat] H0 (fun r H2 => ∃ j : Nat, r = .int .i64 ((j : Int) - 1) ∧ (j ≤ s.length) ∧ (lastL s = s.drop j) ∧ Nw H0 H2) := by
  refine Ct.enter (args := [Str s, .int .u8 (47 : UInt8).toNat]) Tryz.func118 rfl rfl rfl ?_
  intro Q0 hret
  have hm0 : Nw H0 H0 := Mo.refl _ _
  refine CW.seq (fun K1 hK1 hE1 => ?_)
  refine CW.region ?_
  refine LR.v (Y.assign rfl rfl) (Wd.u rfl) rfl rfl ?_
  refine LR.nil ?_
  refine hK1 _ _ ?_
  refine CW.seq (fun K2 hK2 hE2 => ?_)
  refine CW.seq (fun K3 hK3 hE3 => ?_)
  refine CW.region ?_
  refine LR.v (Y.move rfl rfl) (Wd.u rfl) rfl rfl ?_
  refine LR.v (Y.slen rfl Tryz.runUnderlying9 rfl) (Wd.u rfl) rfl rfl ?_
  refine LR.v (Y.subi rfl rfl rfl (by omega)) (Wd.u rfl) rfl rfl ?_
  refine LR.v (Y.assign rfl rfl) (Wd.u rfl) rfl rfl ?_
  refine LR.nil ?_
  refine hK3 _ _ ?_
  refine CW.block (fun K4 hK4 hX4 hE4 => ?_)
  refine CW.loop (fun (j : (Nat)) => [(0, Str s), (1, .int .u8 (47 : UInt8).toNat), (5, .int .i64 ((j : Int) - 1))])
    (fun (j : (Nat)) (H : Heap) => (j ≤ s.length) ∧ (∀ q (h : q < s.length), j ≤ q → s[q] ≠ 47) ∧ Nw H0 H)
    (fun (j : (Nat)) => j) s.length ⟨rfl, rfl, rfl, trivial⟩ ?_ ?_
  ·
    exact ⟨(by omega), (fun q h h2 => absurd h2 (by omega)), Mo.refl _ _⟩
  intro j HL1 hI1 K5 hN5 hE5
  obtain ⟨hj, hno, hlm1⟩ := hI1
  replace hm0 := hm0.tr hlm1
  have hz1 := hlm1.size
  refine CW.seq (fun K6 hK6 hE6 => ?_)
  refine CW.seq (fun K7 hK7 hE7 => ?_)
  refine CW.region ?_
  refine LR.v (Y.move rfl rfl) (Wd.u rfl) rfl rfl ?_
  refine LR.v (Y.geq rfl rfl rfl) (Wd.u rfl) rfl rfl ?_
  refine LR.nil ?_
  refine hK7 _ _ ?_
  refine CW.condp rfl (fun c10 => ?_) (fun c10 => ?_)
  ·
    refine CW.skip ?_
    refine hK6 _ _ ?_
    refine CW.seq (fun K8 hK8 hE8 => ?_)
    refine CW.block (fun K9 hK9 hX9 hE9 => ?_)
    refine CW.seq (fun K10 hK10 hE10 => ?_)
    refine CW.region ?_
    refine LR.v (Y.move rfl rfl) (Wd.u rfl) rfl rfl ?_
    refine LR.v (Y.move rfl rfl) (Wd.u rfl) rfl rfl ?_
    refine LR.v (Y.sindex (j - 1) rfl Tryz.runUnderlying9 rfl rfl (by first | rfl | omega) (by omega)) (Wd.u rfl) rfl rfl ?_
    refine LR.v (Y.move rfl rfl) (Wd.u rfl) rfl rfl ?_
    refine LR.v (Y.eql rfl rfl rfl) (Wd.u rfl) rfl rfl ?_
    refine LR.nil ?_
    refine hK10 _ _ ?_
    refine CW.condp rfl (fun c17 => ?_) (fun c17 => ?_)
    ·
      refine CW.seq (fun K11 hK11 hE11 => ?_)
      refine CW.region ?_
      refine LR.v (Y.move rfl rfl) (Wd.u rfl) rfl rfl ?_
      refine LR.v (Y.assign rfl rfl) (Wd.u rfl) rfl rfl ?_
      refine LR.nil ?_
      refine hK11 _ _ ?_
      refine CW.ret (hE9 .ret nofun (by simp) _ _ (hE8 .ret nofun _ _ (hE5 .ret nofun _ _ (hE4 .ret nofun (by simp) _ _ (hE2 .ret nofun _ _ (hret .ret (.inr rfl) _ _ _ (res1 rfl rfl) ?_))))))
      exact ⟨j, rfl, (by omega), lastL_at hj hno (fun h => by apply UInt8.toNat_inj.1; have := c17; simp at this ⊢; omega), hm0⟩
    ·
      refine CW.skip ?_
      refine hK9 _ _ ?_
      refine hK8 _ _ ?_
      refine CW.region ?_
      refine LR.v (Y.move rfl rfl) (Wd.u rfl) rfl rfl ?_
      refine LR.v (Y.subi rfl rfl rfl (by omega)) (Wd.u rfl) rfl rfl ?_
      refine LR.v (Y.assign rfl rfl) (Wd.u rfl) rfl rfl ?_
      refine LR.nil ?_
      refine QN.sub (hN5 (j - 1) _ ?_ ?_) ⟨rfl, (iv (by omega)), (iv (by omega)), trivial⟩
      · exact ⟨(by omega), (fun q h h2 => by rcases Nat.lt_or_ge q j with h5 | h5; (obtain rfl : q = j - 1 := by omega); exact (fun e => c17 (by first | (rw [e]; done) | (rw [e]; rfl))); exact hno q h h5), hlm1⟩
      · first | omega | (simp only; omega) | (simp; omega)
  ·
    refine CW.exit (hE6 (.exit 0) nofun _ _ (hE5 (.exit 0) nofun _ _ (hX4 _ _ ?_)))
    refine hK2 _ _ ?_
    refine CW.seq (fun K12 hK12 hE12 => ?_)
    refine CW.region ?_
    refine LR.v (Y.assign rfl rfl) (Wd.u rfl) rfl rfl ?_
    refine LR.nil ?_
    refine hK12 _ _ ?_
    refine CW.ret (hret .ret (.inr rfl) _ _ _ (res1 rfl rfl) ?_)
    obtain rfl : j = 0 := by omega
    exact ⟨0, rfl, (by omega), lastL_at hj hno (fun h => absurd h (Nat.lt_irrefl _)), hm0⟩

theorem lix_ct (s : List UInt8) (w0 : World) (H0 : Heap)
    (hl : s.length ≤ 9223372036854775807) :
    Ct Tryz.prog w0 87 #[Str s, .int .u8 (47 : UInt8).toNat] H0 (fun r H2 => ∃ j : Nat, r = .int .i64 ((j : Int) - 1) ∧ (j ≤ s.length) ∧ (lastL s = s.drop j) ∧ Nw H0 H2) := by
  refine Ct.enter (args := [Str s, .int .u8 (47 : UInt8).toNat]) Tryz.func87 rfl rfl rfl ?_
  intro Q0 hret
  have hm0 : Nw H0 H0 := Mo.refl _ _
  refine CW.seq (fun K1 hK1 hE1 => ?_)
  refine CW.region ?_
  refine LR.v (Y.assign rfl rfl) (Wd.u rfl) rfl rfl ?_
  refine LR.nil ?_
  refine hK1 _ _ ?_
  refine CW.seq (fun K2 hK2 hE2 => ?_)
  refine CW.region ?_
  refine LR.v (Y.move rfl rfl) (Wd.u rfl) rfl rfl ?_
  refine LR.v (Y.move rfl rfl) (Wd.u rfl) rfl rfl ?_
  -- call internal/bytealg.LastIndexByteString
  refine LR.call rfl Tryz.call118 rfl (Wd.u rfl) rfl rfl (lix_ct0 s w0 _ hl) (fun v7 H7 r7 => ?_)
  obtain ⟨j7, rfl, hj7, hl7, hs7⟩ := r7
  replace hm0 := hm0.tr hs7
  have hz1 := hs7.size
  refine LR.v (Y.assign rfl rfl) (Wd.u rfl) rfl rfl ?_
  refine LR.nil ?_
  refine hK2 _ _ ?_
  refine CW.ret (hret .ret (.inr rfl) _ _ _ (res1 rfl rfl) ?_)
  exact ⟨j7, rfl, hj7, hl7, hm0⟩

theorem name_ct (mx_ : Int) (l : List UInt8) (w0 : World) (H0 : Heap)
    (mx : MX mx_ H0) (bf_mx : BF (fun b => b = 0) H0.size) (hl : l.length ≤ 4294967280) :
    Ct Tryz.prog w0 26 #[Str l] H0 (fun r H2 => r = .bool (nameB l) ∧ Nw H0 H2) := by
  refine Ct.enter (args := [Str l]) Tryz.func26 rfl rfl rfl ?_
  intro Q0 hret
  have hm0 : Nw H0 H0 := Mo.refl _ _
  refine CW.seq (fun K1 hK1 hE1 => ?_)
  refine CW.region ?_
  refine LR.v (Y.assign rfl rfl) (Wd.u rfl) rfl rfl ?_
  refine LR.nil ?_
  refine hK1 _ _ ?_
  refine CW.seq (fun K2 hK2 hE2 => ?_)
  refine CW.seq (fun K3 hK3 hE3 => ?_)
  refine CW.region ?_
  refine LR.v (Y.move rfl rfl) (Wd.u rfl) rfl rfl ?_
  refine LR.v (Y.seql rfl rfl rfl) (Wd.u rfl) rfl rfl ?_
  refine LR.v (Y.move rfl rfl) (Wd.u rfl) rfl rfl ?_
  refine LR.splitp (d := 7) rfl (fun g7 => ?_) (fun g7 => ?_)
  ·
    refine LR.gs rfl rfl rfl rfl rfl rfl ?_
    refine LR.gs rfl rfl rfl rfl rfl rfl ?_
    refine LR.gs rfl rfl rfl rfl rfl rfl ?_
    refine LR.v (Y.pick_t rfl rfl rfl) (Wd.u rfl) rfl rfl ?_
    refine LR.v (Y.move rfl rfl) (Wd.u rfl) rfl rfl ?_
    refine LR.gs rfl rfl rfl rfl rfl rfl ?_
    refine LR.gs rfl rfl rfl rfl rfl rfl ?_
    refine LR.gs rfl rfl rfl rfl rfl rfl ?_
    refine LR.gs rfl rfl rfl rfl rfl rfl ?_
    refine LR.v (Y.pick_t rfl rfl rfl) (Wd.u rfl) rfl rfl ?_
    refine LR.v (Y.move rfl rfl) (Wd.u rfl) rfl rfl ?_
    refine LR.gs rfl rfl rfl rfl rfl rfl ?_
    refine LR.gs rfl rfl rfl rfl rfl rfl ?_
    refine LR.v (Y.pick_t rfl rfl rfl) (Wd.u rfl) rfl rfl ?_
    refine LR.nil ?_
    refine hK3 _ _ ?_
    refine CW.cond_t rfl ?_
    refine CW.seq (fun K4 hK4 hE4 => ?_)
    refine CW.region ?_
    refine LR.v (Y.assign rfl rfl) (Wd.u rfl) rfl rfl ?_
    refine LR.nil ?_
    refine hK4 _ _ ?_
    refine CW.ret (hE2 .ret nofun _ _ (hret .ret (.inr rfl) _ _ _ (res1 rfl rfl) ?_))
    exact ⟨congrArg Value.bool (nameF (fun h => by obtain ⟨h1, h2, h3, h4, h5⟩ := h; first | exact h1 g7 | omega | exact g18 h3 | (rw [h4] at c21; cases c21))).symm, hm0⟩
  ·
    refine LR.v (Y.move rfl rfl) (Wd.g rfl rfl rfl) rfl rfl ?_
    refine LR.v (Y.slen rfl Tryz.runUnderlying9 rfl) (Wd.g rfl rfl rfl) rfl rfl ?_
    refine LR.v (Y.gtr rfl rfl rfl) (Wd.g rfl rfl rfl) rfl rfl ?_
    refine LR.v (Y.pick_f rfl rfl rfl) (Wd.u rfl) rfl rfl ?_
    refine LR.v (Y.move rfl rfl) (Wd.u rfl) rfl rfl ?_
    refine LR.splitp (d := 12) rfl (fun g12 => ?_) (fun g12 => ?_)
    ·
      refine LR.gs rfl rfl rfl rfl rfl rfl ?_
      refine LR.gs rfl rfl rfl rfl rfl rfl ?_
      refine LR.gs rfl rfl rfl rfl rfl rfl ?_
      refine LR.gs rfl rfl rfl rfl rfl rfl ?_
      refine LR.v (Y.pick_t rfl rfl rfl) (Wd.u rfl) rfl rfl ?_
      refine LR.v (Y.move rfl rfl) (Wd.u rfl) rfl rfl ?_
      refine LR.gs rfl rfl rfl rfl rfl rfl ?_
      refine LR.gs rfl rfl rfl rfl rfl rfl ?_
      refine LR.v (Y.pick_t rfl rfl rfl) (Wd.u rfl) rfl rfl ?_
      refine LR.nil ?_
      refine hK3 _ _ ?_
      refine CW.cond_t rfl ?_
      refine CW.seq (fun K5 hK5 hE5 => ?_)
      refine CW.region ?_
      refine LR.v (Y.assign rfl rfl) (Wd.u rfl) rfl rfl ?_
      refine LR.nil ?_
      refine hK5 _ _ ?_
      refine CW.ret (hE2 .ret nofun _ _ (hret .ret (.inr rfl) _ _ _ (res1 rfl rfl) ?_))
      exact ⟨congrArg Value.bool (nameF (fun h => by obtain ⟨h1, h2, h3, h4, h5⟩ := h; first | exact h1 g7 | omega | exact g18 h3 | (rw [h4] at c21; cases c21))).symm, hm0⟩
    ·
      refine LR.v (Y.move rfl rfl) (Wd.g rfl rfl rfl) rfl rfl ?_
      -- call strings.Trim
      refine LR.call rfl Tryz.call67 rfl (Wd.g rfl rfl rfl) rfl rfl (trim_ct l w0 _ (by omega)) (fun v14 H14 r14 => ?_)
      obtain ⟨rfl, hs14⟩ := r14
      replace mx := mx.nw hs14
      replace hm0 := hm0.tr hs14
      have hz1 := hs14.size
      refine LR.v (Y.move rfl rfl) (Wd.g rfl rfl rfl) rfl rfl ?_
      refine LR.v (Y.sneq rfl rfl rfl) (Wd.g rfl rfl rfl) rfl rfl ?_
      refine LR.v (Y.pick_f rfl rfl rfl) (Wd.u rfl) rfl rfl ?_
      refine LR.v (Y.move rfl rfl) (Wd.u rfl) rfl rfl ?_
      refine LR.splitp (d := 18) rfl (fun g18 => ?_) (fun g18 => ?_)
      ·
        refine LR.gs rfl rfl rfl rfl rfl rfl ?_
        refine LR.gs rfl rfl rfl rfl rfl rfl ?_
        refine LR.v (Y.pick_t rfl rfl rfl) (Wd.u rfl) rfl rfl ?_
        refine LR.nil ?_
        refine hK3 _ _ ?_
        refine CW.cond_t rfl ?_
        refine CW.seq (fun K6 hK6 hE6 => ?_)
        refine CW.region ?_
        refine LR.v (Y.assign rfl rfl) (Wd.u rfl) rfl rfl ?_
        refine LR.nil ?_
        refine hK6 _ _ ?_
        refine CW.ret (hE2 .ret nofun _ _ (hret .ret (.inr rfl) _ _ _ (res1 rfl rfl) ?_))
        exact ⟨congrArg Value.bool (nameF (fun h => by obtain ⟨h1, h2, h3, h4, h5⟩ := h; first | exact h1 g7 | omega | exact g18 h3 | (rw [h4] at c21; cases c21))).symm, hm0⟩
      ·
        refine LR.v (Y.move rfl rfl) (Wd.g rfl rfl rfl) rfl rfl ?_
        -- call strings.Contains
        refine LR.call rfl Tryz.call68 rfl (Wd.g rfl rfl rfl) rfl rfl (contains_ct l [47, 47] mx_ w0 _ mx (by omega)) (fun v20 H20 r20 => ?_)
        obtain ⟨rfl, hs20⟩ := r20
        replace mx := mx.nw hs20
        replace hm0 := hm0.tr hs20
        have hz2 := hs20.size
        refine LR.v (Y.pick_f rfl rfl rfl) (Wd.u rfl) rfl rfl ?_
        refine LR.nil ?_
        refine hK3 _ _ ?_
        refine CW.cond rfl (fun c21 => ?_) (fun c21 => ?_)
        ·
          refine CW.seq (fun K7 hK7 hE7 => ?_)
          refine CW.region ?_
          refine LR.v (Y.assign rfl rfl) (Wd.u rfl) rfl rfl ?_
          refine LR.nil ?_
          refine hK7 _ _ ?_
          refine CW.ret (hE2 .ret nofun _ _ (hret .ret (.inr rfl) _ _ _ (res1 rfl rfl) ?_))
          exact ⟨congrArg Value.bool (nameF (fun h => by obtain ⟨h1, h2, h3, h4, h5⟩ := h; first | exact h1 g7 | omega | exact g18 h3 | (rw [h4] at c21; cases c21))).symm, hm0⟩
        ·
          refine CW.skip ?_
          refine hK2 _ _ ?_
          refine CW.seq (fun K8 hK8 hE8 => ?_)
          refine CW.seq (fun K9 hK9 hE9 => ?_)
          refine CW.region ?_
          refine LR.v (Y.move rfl rfl) (Wd.u rfl) rfl rfl ?_
          refine LR.z (Z.strbw rfl Tryz.underlying9 Tryz.underlying34 Tryz.underlying5 rfl (by omega)) (Wd.u rfl) rfl rfl (fun v23 H23 r23 => ?_)
          obtain ⟨owb, hs23, hzs23⟩ := r23
          have df1 := (DF.new (bf_mx.mono hm0.size) : DF _ (H20.size + 1))
          have nx2 : Nx 0 H0.size (H20.size + 1) := Nx.new hm0.size
          replace mx := mx.nw hs23
          replace hm0 := hm0.tr hs23
          have hz3 := hs23.size
          refine LR.v (Y.len owb.rd rfl Tryz.runUnderlying34 rfl) (Wd.u rfl) rfl rfl ?_
          refine LR.v (Y.move rfl rfl) (Wd.u rfl) rfl rfl ?_
          refine LR.nil ?_
          refine hK9 _ _ ?_
          refine CW.block (fun K10 hK10 hX10 hE10 => ?_)
          refine CW.loop (fun (i : (Nat)) => [(23, v23), (24, .int .i64 l.length), (25, .int .i64 i)])
            (fun (i : (Nat)) (H : Heap) => (i ≤ l.length) ∧ (∀ q (h : q < l.length), q < i → okc l[q] = true) ∧ Nw H23 H)
            (fun (i : (Nat)) => l.length - i) 0 ⟨rfl, rfl, rfl, trivial⟩ ?_ ?_
          ·
            exact ⟨(by omega), (fun q h h2 => absurd h2 (by omega)), Mo.refl _ _⟩
          intro i HL1 hI1 K11 hN11 hE11
          obtain ⟨hi, hok, hlm1⟩ := hI1
          replace mx := mx.nw hlm1
          replace owb := owb.nw hlm1
          replace hm0 := hm0.tr hlm1
          have hz4 := hlm1.size
          refine CW.seq (fun K12 hK12 hE12 => ?_)
          refine CW.region ?_
          refine LR.v (Y.lss rfl rfl rfl) (Wd.u rfl) rfl rfl ?_
          refine LR.nil ?_
          refine hK12 _ _ ?_
          refine CW.seq (fun K13 hK13 hE13 => ?_)
          refine CW.condp rfl (fun c26 => ?_) (fun c26 => ?_)
          ·
            have hil : i < l.length := by omega
            refine CW.skip ?_
            refine hK13 _ _ ?_
            refine CW.seq (fun K14 hK14 hE14 => ?_)
            refine CW.block (fun K15 hK15 hX15 hE15 => ?_)
            refine CW.seq (fun K16 hK16 hE16 => ?_)
            refine CW.region ?_
            refine LR.v (Y.owAddr owb (i) rfl Tryz.runUnderlying34 Tryz.sizeOf5 rfl rfl (by first | rfl | omega) (by first | omega | (simp; omega) | (simp; done))) (Wd.u rfl) rfl rfl ?_
            refine LR.v (Y.load1 (owb.pt (j := i) (by first | omega | (simp; omega) | (simp; done))) rfl Tryz.isAgg5 rfl) (Wd.u rfl) rfl rfl ?_
            refine LR.v (Y.assign rfl rfl) (Wd.u rfl) rfl rfl ?_
            refine LR.nil ?_
            refine hK16 _ _ ?_
            refine CW.seq (fun K17 hK17 hE17 => ?_)
            refine CW.region ?_
            refine LR.v (Y.move rfl rfl) (Wd.u rfl) rfl rfl ?_
            refine LR.v (Y.geq rfl rfl rfl) (Wd.u rfl) rfl rfl ?_
            refine LR.v (Y.move rfl rfl) (Wd.u rfl) rfl rfl ?_
            refine LR.splitp (d := 31) rfl (fun g31 => ?_) (fun g31 => ?_)
            ·
              refine LR.v (Y.move rfl rfl) (Wd.g rfl rfl rfl) rfl rfl ?_
              refine LR.v (Y.leq rfl rfl rfl) (Wd.g rfl rfl rfl) rfl rfl ?_
              refine LR.v (Y.pick_t rfl rfl rfl) (Wd.u rfl) rfl rfl ?_
              refine LR.v (Y.move rfl rfl) (Wd.u rfl) rfl rfl ?_
              refine LR.splitp (d := 35) rfl (fun g35 => ?_) (fun g35 => ?_)
              ·
                refine LR.gs rfl rfl rfl rfl rfl rfl ?_
                refine LR.gs rfl rfl rfl rfl rfl rfl ?_
                refine LR.gs rfl rfl rfl rfl rfl rfl ?_
                refine LR.gsu rfl rfl rfl rfl rfl ?_
                refine LR.gsu rfl rfl rfl rfl rfl ?_
                refine LR.gs rfl rfl rfl rfl rfl rfl ?_
                refine LR.v (Y.pick_t rfl rfl rfl) (Wd.u rfl) rfl rfl ?_
                refine LR.v (Y.move rfl rfl) (Wd.u rfl) rfl rfl ?_
                refine LR.gs rfl rfl rfl rfl rfl rfl ?_
                refine LR.gs rfl rfl rfl rfl rfl rfl ?_
                refine LR.gs rfl rfl rfl rfl rfl rfl ?_
                refine LR.v (Y.pick_t rfl rfl rfl) (Wd.u rfl) rfl rfl ?_
                refine LR.v (Y.not rfl rfl) (Wd.u rfl) rfl rfl ?_
                refine LR.nil ?_
                refine hK17 _ _ ?_
                refine CW.cond_f rfl ?_
                refine CW.skip ?_
                refine hK15 _ _ ?_
                refine hK14 _ _ ?_
                refine CW.region ?_
                refine LR.v (Y.addi rfl rfl rfl (by omega)) (Wd.u rfl) rfl rfl ?_
                refine LR.v (Y.move rfl rfl) (Wd.u rfl) rfl rfl ?_
                refine LR.nil ?_
                have hci : okc l[i] = true := (okc_iff _).2 (by simp at *; omega)
                refine QN.sub (hN11 (i + 1) _ ?_ ?_) ⟨rfl, (iv (by omega)), (iv (by omega)), trivial⟩
                · exact ⟨(by omega), (fun q h h2 => by rcases Nat.lt_or_ge q i with h5 | h5; exact hok q h h5; (obtain rfl : q = i := by omega); exact hci), hlm1⟩
                · first | omega | (simp only; omega) | (simp; omega)
              ·
                refine LR.v (Y.move rfl rfl) (Wd.g rfl rfl rfl) rfl rfl ?_
                refine LR.v (Y.geq rfl rfl rfl) (Wd.g rfl rfl rfl) rfl rfl ?_
                refine LR.v (Y.move rfl rfl) (Wd.g rfl rfl rfl) rfl rfl ?_
                refine LR.splitp (d := 38) rfl (fun g38 => ?_) (fun g38 => ?_)
                ·
                  refine LR.v (Y.move rfl rfl) (Wd.g rfl rfl rfl) rfl rfl ?_
                  refine LR.v (Y.leq rfl rfl rfl) (Wd.g rfl rfl rfl) rfl rfl ?_
                  refine LR.v (Y.pick_t rfl rfl rfl) (Wd.g rfl rfl rfl) rfl rfl ?_
                  refine LR.v (Y.pick_f rfl rfl rfl) (Wd.u rfl) rfl rfl ?_
                  refine LR.v (Y.move rfl rfl) (Wd.u rfl) rfl rfl ?_
                  refine LR.splitp (d := 43) rfl (fun g43 => ?_) (fun g43 => ?_)
                  ·
                    refine LR.gs rfl rfl rfl rfl rfl rfl ?_
                    refine LR.gs rfl rfl rfl rfl rfl rfl ?_
                    refine LR.gs rfl rfl rfl rfl rfl rfl ?_
                    refine LR.v (Y.pick_t rfl rfl rfl) (Wd.u rfl) rfl rfl ?_
                    refine LR.v (Y.not rfl rfl) (Wd.u rfl) rfl rfl ?_
                    refine LR.nil ?_
                    refine hK17 _ _ ?_
                    refine CW.cond_f rfl ?_
                    refine CW.skip ?_
                    refine hK15 _ _ ?_
                    refine hK14 _ _ ?_
                    refine CW.region ?_
                    refine LR.v (Y.addi rfl rfl rfl (by omega)) (Wd.u rfl) rfl rfl ?_
                    refine LR.v (Y.move rfl rfl) (Wd.u rfl) rfl rfl ?_
                    refine LR.nil ?_
                    have hci : okc l[i] = true := (okc_iff _).2 (by simp at *; omega)
                    refine QN.sub (hN11 (i + 1) _ ?_ ?_) ⟨rfl, (iv (by omega)), (iv (by omega)), trivial⟩
                    · exact ⟨(by omega), (fun q h h2 => by rcases Nat.lt_or_ge q i with h5 | h5; exact hok q h h5; (obtain rfl : q = i := by omega); exact hci), hlm1⟩
                    · first | omega | (simp only; omega) | (simp; omega)
                  ·
                    refine LR.v (Y.move rfl rfl) (Wd.g rfl rfl rfl) rfl rfl ?_
                    -- call strings.IndexByte
                    refine LR.call rfl Tryz.call69 rfl (Wd.g rfl rfl rfl) rfl rfl (idx_ct [46, 95, 45, 47] l[i] w0 _) (fun v45 H45 r45 => ?_)
                    obtain ⟨rfl, hs45⟩ := r45
                    replace mx := mx.nw hs45
                    replace owb := owb.nw hs45
                    replace hm0 := hm0.tr hs45
                    replace hlm1 := hlm1.tr hs45
                    have hz5 := hs45.size
                    refine LR.v (Y.geq rfl rfl rfl) (Wd.g rfl rfl rfl) rfl rfl ?_
                    refine LR.v (Y.pick_f rfl rfl rfl) (Wd.u rfl) rfl rfl ?_
                    refine LR.v (Y.notp rfl rfl) (Wd.u rfl) rfl rfl ?_
                    refine LR.nil ?_
                    refine hK17 _ _ ?_
                    refine CW.condp rfl (fun c48 => ?_) (fun c48 => ?_)
                    ·
                      refine CW.seq (fun K18 hK18 hE18 => ?_)
                      refine CW.region ?_
                      refine LR.v (Y.assign rfl rfl) (Wd.u rfl) rfl rfl ?_
                      refine LR.nil ?_
                      refine hK18 _ _ ?_
                      refine CW.ret (hE15 .ret nofun (by simp) _ _ (hE14 .ret nofun _ _ (hE11 .ret nofun _ _ (hE10 .ret nofun (by simp) _ _ (hE8 .ret nofun _ _ (hret .ret (.inr rfl) _ _ _ (res1 rfl rfl) ?_))))))
                      exact ⟨congrArg Value.bool (nameF (fun h => by have h9 := (okc_iff _).1 (h.2.2.2.2 i hil); simp at *; omega)).symm, hm0⟩
                    ·
                      refine CW.skip ?_
                      refine hK15 _ _ ?_
                      refine hK14 _ _ ?_
                      refine CW.region ?_
                      refine LR.v (Y.addi rfl rfl rfl (by omega)) (Wd.u rfl) rfl rfl ?_
                      refine LR.v (Y.move rfl rfl) (Wd.u rfl) rfl rfl ?_
                      refine LR.nil ?_
                      have hci : okc l[i] = true := (okc_iff _).2 (by simp at *; omega)
                      refine QN.sub (hN11 (i + 1) _ ?_ ?_) ⟨rfl, (iv (by omega)), (iv (by omega)), trivial⟩
                      · exact ⟨(by omega), (fun q h h2 => by rcases Nat.lt_or_ge q i with h5 | h5; exact hok q h h5; (obtain rfl : q = i := by omega); exact hci), hlm1⟩
                      · first | omega | (simp only; omega) | (simp; omega)
                ·
                  refine LR.gs rfl rfl rfl rfl rfl rfl ?_
                  refine LR.gs rfl rfl rfl rfl rfl rfl ?_
                  refine LR.v (Y.pick_f rfl rfl rfl) (Wd.g rfl rfl rfl) rfl rfl ?_
                  refine LR.v (Y.pick_f rfl rfl rfl) (Wd.u rfl) rfl rfl ?_
                  refine LR.v (Y.move rfl rfl) (Wd.u rfl) rfl rfl ?_
                  refine LR.v (Y.move rfl rfl) (Wd.g rfl rfl rfl) rfl rfl ?_
                  -- call strings.IndexByte
                  refine LR.call rfl Tryz.call69 rfl (Wd.g rfl rfl rfl) rfl rfl (idx_ct [46, 95, 45, 47] l[i] w0 _) (fun v45 H45 r45 => ?_)
                  obtain ⟨rfl, hs45⟩ := r45
                  replace mx := mx.nw hs45
                  replace owb := owb.nw hs45
                  replace hm0 := hm0.tr hs45
                  replace hlm1 := hlm1.tr hs45
                  have hz6 := hs45.size
                  refine LR.v (Y.geq rfl rfl rfl) (Wd.g rfl rfl rfl) rfl rfl ?_
                  refine LR.v (Y.pick_f rfl rfl rfl) (Wd.u rfl) rfl rfl ?_
                  refine LR.v (Y.notp rfl rfl) (Wd.u rfl) rfl rfl ?_
                  refine LR.nil ?_
                  refine hK17 _ _ ?_
                  refine CW.condp rfl (fun c48 => ?_) (fun c48 => ?_)
                  ·
                    refine CW.seq (fun K19 hK19 hE19 => ?_)
                    refine CW.region ?_
                    refine LR.v (Y.assign rfl rfl) (Wd.u rfl) rfl rfl ?_
                    refine LR.nil ?_
                    refine hK19 _ _ ?_
                    refine CW.ret (hE15 .ret nofun (by simp) _ _ (hE14 .ret nofun _ _ (hE11 .ret nofun _ _ (hE10 .ret nofun (by simp) _ _ (hE8 .ret nofun _ _ (hret .ret (.inr rfl) _ _ _ (res1 rfl rfl) ?_))))))
                    exact ⟨congrArg Value.bool (nameF (fun h => by have h9 := (okc_iff _).1 (h.2.2.2.2 i hil); simp at *; omega)).symm, hm0⟩
                  ·
                    refine CW.skip ?_
                    refine hK15 _ _ ?_
                    refine hK14 _ _ ?_
                    refine CW.region ?_
                    refine LR.v (Y.addi rfl rfl rfl (by omega)) (Wd.u rfl) rfl rfl ?_
                    refine LR.v (Y.move rfl rfl) (Wd.u rfl) rfl rfl ?_
                    refine LR.nil ?_
                    have hci : okc l[i] = true := (okc_iff _).2 (by simp at *; omega)
                    refine QN.sub (hN11 (i + 1) _ ?_ ?_) ⟨rfl, (iv (by omega)), (iv (by omega)), trivial⟩
                    · exact ⟨(by omega), (fun q h h2 => by rcases Nat.lt_or_ge q i with h5 | h5; exact hok q h h5; (obtain rfl : q = i := by omega); exact hci), hlm1⟩
                    · first | omega | (simp only; omega) | (simp; omega)
            ·
              refine LR.gs rfl rfl rfl rfl rfl rfl ?_
              refine LR.gs rfl rfl rfl rfl rfl rfl ?_
              refine LR.v (Y.pick_f rfl rfl rfl) (Wd.u rfl) rfl rfl ?_
              refine LR.v (Y.move rfl rfl) (Wd.u rfl) rfl rfl ?_
              refine LR.v (Y.move rfl rfl) (Wd.g rfl rfl rfl) rfl rfl ?_
              refine LR.v (Y.geq rfl rfl rfl) (Wd.g rfl rfl rfl) rfl rfl ?_
              refine LR.v (Y.move rfl rfl) (Wd.g rfl rfl rfl) rfl rfl ?_
              refine LR.splitp (d := 38) rfl (fun g38 => ?_) (fun g38 => ?_)
              ·
                refine LR.v (Y.move rfl rfl) (Wd.g rfl rfl rfl) rfl rfl ?_
                refine LR.v (Y.leq rfl rfl rfl) (Wd.g rfl rfl rfl) rfl rfl ?_
                refine LR.v (Y.pick_t rfl rfl rfl) (Wd.g rfl rfl rfl) rfl rfl ?_
                refine LR.v (Y.pick_f rfl rfl rfl) (Wd.u rfl) rfl rfl ?_
                refine LR.v (Y.move rfl rfl) (Wd.u rfl) rfl rfl ?_
                refine LR.splitp (d := 43) rfl (fun g43 => ?_) (fun g43 => ?_)
                ·
                  refine LR.gs rfl rfl rfl rfl rfl rfl ?_
                  refine LR.gs rfl rfl rfl rfl rfl rfl ?_
                  refine LR.gs rfl rfl rfl rfl rfl rfl ?_
                  refine LR.v (Y.pick_t rfl rfl rfl) (Wd.u rfl) rfl rfl ?_
                  refine LR.v (Y.not rfl rfl) (Wd.u rfl) rfl rfl ?_
                  refine LR.nil ?_
                  refine hK17 _ _ ?_
                  refine CW.cond_f rfl ?_
                  refine CW.skip ?_
                  refine hK15 _ _ ?_
                  refine hK14 _ _ ?_
                  refine CW.region ?_
                  refine LR.v (Y.addi rfl rfl rfl (by omega)) (Wd.u rfl) rfl rfl ?_
                  refine LR.v (Y.move rfl rfl) (Wd.u rfl) rfl rfl ?_
                  refine LR.nil ?_
                  have hci : okc l[i] = true := (okc_iff _).2 (by simp at *; omega)
                  refine QN.sub (hN11 (i + 1) _ ?_ ?_) ⟨rfl, (iv (by omega)), (iv (by omega)), trivial⟩
                  · exact ⟨(by omega), (fun q h h2 => by rcases Nat.lt_or_ge q i with h5 | h5; exact hok q h h5; (obtain rfl : q = i := by omega); exact hci), hlm1⟩
                  · first | omega | (simp only; omega) | (simp; omega)
                ·
                  refine LR.v (Y.move rfl rfl) (Wd.g rfl rfl rfl) rfl rfl ?_
                  -- call strings.IndexByte
                  refine LR.call rfl Tryz.call69 rfl (Wd.g rfl rfl rfl) rfl rfl (idx_ct [46, 95, 45, 47] l[i] w0 _) (fun v45 H45 r45 => ?_)
                  obtain ⟨rfl, hs45⟩ := r45
                  replace mx := mx.nw hs45
                  replace owb := owb.nw hs45
                  replace hm0 := hm0.tr hs45
                  replace hlm1 := hlm1.tr hs45
                  have hz7 := hs45.size
                  refine LR.v (Y.geq rfl rfl rfl) (Wd.g rfl rfl rfl) rfl rfl ?_
                  refine LR.v (Y.pick_f rfl rfl rfl) (Wd.u rfl) rfl rfl ?_
                  refine LR.v (Y.notp rfl rfl) (Wd.u rfl) rfl rfl ?_
                  refine LR.nil ?_
                  refine hK17 _ _ ?_
                  refine CW.condp rfl (fun c48 => ?_) (fun c48 => ?_)
                  ·
                    refine CW.seq (fun K20 hK20 hE20 => ?_)
                    refine CW.region ?_
                    refine LR.v (Y.assign rfl rfl) (Wd.u rfl) rfl rfl ?_
                    refine LR.nil ?_
                    refine hK20 _ _ ?_
                    refine CW.ret (hE15 .ret nofun (by simp) _ _ (hE14 .ret nofun _ _ (hE11 .ret nofun _ _ (hE10 .ret nofun (by simp) _ _ (hE8 .ret nofun _ _ (hret .ret (.inr rfl) _ _ _ (res1 rfl rfl) ?_))))))
                    exact ⟨congrArg Value.bool (nameF (fun h => by have h9 := (okc_iff _).1 (h.2.2.2.2 i hil); simp at *; omega)).symm, hm0⟩
                  ·
                    refine CW.skip ?_
                    refine hK15 _ _ ?_
                    refine hK14 _ _ ?_
                    refine CW.region ?_
                    refine LR.v (Y.addi rfl rfl rfl (by omega)) (Wd.u rfl) rfl rfl ?_
                    refine LR.v (Y.move rfl rfl) (Wd.u rfl) rfl rfl ?_
                    refine LR.nil ?_
                    have hci : okc l[i] = true := (okc_iff _).2 (by simp at *; omega)
                    refine QN.sub (hN11 (i + 1) _ ?_ ?_) ⟨rfl, (iv (by omega)), (iv (by omega)), trivial⟩
                    · exact ⟨(by omega), (fun q h h2 => by rcases Nat.lt_or_ge q i with h5 | h5; exact hok q h h5; (obtain rfl : q = i := by omega); exact hci), hlm1⟩
                    · first | omega | (simp only; omega) | (simp; omega)
              ·
                refine LR.gs rfl rfl rfl rfl rfl rfl ?_
                refine LR.gs rfl rfl rfl rfl rfl rfl ?_
                refine LR.v (Y.pick_f rfl rfl rfl) (Wd.g rfl rfl rfl) rfl rfl ?_
                refine LR.v (Y.pick_f rfl rfl rfl) (Wd.u rfl) rfl rfl ?_
                refine LR.v (Y.move rfl rfl) (Wd.u rfl) rfl rfl ?_
                refine LR.v (Y.move rfl rfl) (Wd.g rfl rfl rfl) rfl rfl ?_
                -- call strings.IndexByte
                refine LR.call rfl Tryz.call69 rfl (Wd.g rfl rfl rfl) rfl rfl (idx_ct [46, 95, 45, 47] l[i] w0 _) (fun v45 H45 r45 => ?_)
                obtain ⟨rfl, hs45⟩ := r45
                replace mx := mx.nw hs45
                replace owb := owb.nw hs45
                replace hm0 := hm0.tr hs45
                replace hlm1 := hlm1.tr hs45
                have hz8 := hs45.size
                refine LR.v (Y.geq rfl rfl rfl) (Wd.g rfl rfl rfl) rfl rfl ?_
                refine LR.v (Y.pick_f rfl rfl rfl) (Wd.u rfl) rfl rfl ?_
                refine LR.v (Y.notp rfl rfl) (Wd.u rfl) rfl rfl ?_
                refine LR.nil ?_
                refine hK17 _ _ ?_
                refine CW.condp rfl (fun c48 => ?_) (fun c48 => ?_)
                ·
                  refine CW.seq (fun K21 hK21 hE21 => ?_)
                  refine CW.region ?_
                  refine LR.v (Y.assign rfl rfl) (Wd.u rfl) rfl rfl ?_
                  refine LR.nil ?_
                  refine hK21 _ _ ?_
                  refine CW.ret (hE15 .ret nofun (by simp) _ _ (hE14 .ret nofun _ _ (hE11 .ret nofun _ _ (hE10 .ret nofun (by simp) _ _ (hE8 .ret nofun _ _ (hret .ret (.inr rfl) _ _ _ (res1 rfl rfl) ?_))))))
                  exact ⟨congrArg Value.bool (nameF (fun h => by have h9 := (okc_iff _).1 (h.2.2.2.2 i hil); simp at *; omega)).symm, hm0⟩
                ·
                  refine CW.skip ?_
                  refine hK15 _ _ ?_
                  refine hK14 _ _ ?_
                  refine CW.region ?_
                  refine LR.v (Y.addi rfl rfl rfl (by omega)) (Wd.u rfl) rfl rfl ?_
                  refine LR.v (Y.move rfl rfl) (Wd.u rfl) rfl rfl ?_
                  refine LR.nil ?_
                  have hci : okc l[i] = true := (okc_iff _).2 (by simp at *; omega)
                  refine QN.sub (hN11 (i + 1) _ ?_ ?_) ⟨rfl, (iv (by omega)), (iv (by omega)), trivial⟩
                  · exact ⟨(by omega), (fun q h h2 => by rcases Nat.lt_or_ge q i with h5 | h5; exact hok q h h5; (obtain rfl : q = i := by omega); exact hci), hlm1⟩
                  · first | omega | (simp only; omega) | (simp; omega)
          ·
            refine CW.exit (hE13 (.exit 0) nofun _ _ (hE11 (.exit 0) nofun _ _ (hX10 _ _ ?_)))
            refine hK8 _ _ ?_
            refine CW.seq (fun K22 hK22 hE22 => ?_)
            refine CW.region ?_
            refine LR.v (Y.assign rfl rfl) (Wd.u rfl) rfl rfl ?_
            refine LR.nil ?_
            refine hK22 _ _ ?_
            refine CW.ret (hret .ret (.inr rfl) _ _ _ (res1 rfl rfl) ?_)
            obtain rfl : i = l.length := by omega
            exact ⟨congrArg Value.bool ((name_iff l).2 ⟨g7, by omega, by simpa using g18, by simpa using c21, fun i h => hok i h h⟩).symm, hm0⟩

theorem dir_ct (mx_ : Int) (l : List UInt8) (w0 : World) (H0 : Heap)
    (mx : MX mx_ H0) (bf_mx : BF (fun b => b = 0) H0.size) (hl : l.length ≤ 4294967280) :
    Ct Tryz.prog w0 52 #[Str l] H0 (fun r H2 => r = Str (dirP l) ∧ Nw H0 H2) := by
  refine Ct.enter (args := [Str l]) Tryz.func52 rfl rfl rfl ?_
  intro Q0 hret
  have hm0 : Nw H0 H0 := Mo.refl _ _
  refine CW.seq (fun K1 hK1 hE1 => ?_)
  refine CW.region ?_
  refine LR.v (Y.assign rfl rfl) (Wd.u rfl) rfl rfl ?_
  refine LR.nil ?_
  refine hK1 _ _ ?_
  refine CW.seq (fun K2 hK2 hE2 => ?_)
  refine CW.seq (fun K3 hK3 hE3 => ?_)
  refine CW.region ?_
  refine LR.v (Y.move rfl rfl) (Wd.u rfl) rfl rfl ?_
  -- call selvage/simfs.Name
  refine LR.call rfl Tryz.call26 rfl (Wd.u rfl) rfl rfl (name_ct mx_ l w0 _ mx (bf_mx.mono (by omega)) hl) (fun v4 H4 r4 => ?_)
  obtain ⟨rfl, hs4⟩ := r4
  replace mx := mx.nw hs4
  replace hm0 := hm0.tr hs4
  have hz1 := hs4.size
  refine LR.v (Y.not rfl rfl) (Wd.u rfl) rfl rfl ?_
  refine LR.nil ?_
  refine hK3 _ _ ?_
  refine CW.cond rfl (fun c5 => ?_) (fun c5 => ?_)
  ·
    refine CW.seq (fun K4 hK4 hE4 => ?_)
    refine CW.region ?_
    refine LR.v (Y.assign rfl rfl) (Wd.u rfl) rfl rfl ?_
    refine LR.nil ?_
    refine hK4 _ _ ?_
    refine CW.ret (hE2 .ret nofun _ _ (hret .ret (.inr rfl) _ _ _ (res1 rfl rfl) ?_))
    exact ⟨by rw [dirP, if_neg (by simpa using c5)]; rfl, hm0⟩
  ·
    refine CW.skip ?_
    refine hK2 _ _ ?_
    refine CW.seq (fun K5 hK5 hE5 => ?_)
    refine CW.region ?_
    refine LR.v (Y.move rfl rfl) (Wd.u rfl) rfl rfl ?_
    refine LR.v (Y.move rfl rfl) (Wd.u rfl) rfl rfl ?_
    -- call strings.LastIndexByte
    refine LR.call rfl Tryz.call87 rfl (Wd.u rfl) rfl rfl (lix_ct l w0 _ (by omega)) (fun v8 H8 r8 => ?_)
    obtain ⟨j8, rfl, hj8, hl8, hs8⟩ := r8
    replace mx := mx.nw hs8
    replace hm0 := hm0.tr hs8
    have hz2 := hs8.size
    refine LR.v (Y.cast (v2 := .int .i64 ((j8 - 1 : Nat) : Int)) (Y.maxi rfl rfl rfl) (ivv (by omega))) (Wd.u rfl) rfl rfl ?_
    refine LR.v (Y.sslice (0) (j8 - 1) rfl Tryz.runUnderlying9 rfl (.inl ⟨rfl, rfl⟩) (.inr ⟨_, _, _, rfl, rfl, by first | rfl | omega⟩) (by omega) (by omega)) (Wd.u rfl) rfl rfl ?_
    refine LR.v (Y.assign rfl rfl) (Wd.u rfl) rfl rfl ?_
    refine LR.nil ?_
    refine hK5 _ _ ?_
    refine CW.ret (hret .ret (.inr rfl) _ _ _ (res1 rfl rfl) ?_)
    exact ⟨by rw [dirP, if_pos (by simpa using c5), head_of hj8 hl8]; simp, hm0⟩

end Go.Proofs.YtdliddjkacbggaaGreatDoor.SimA
/-
  Zeros put behind a row that is ours; values of slices of slices: no condition.
-/
namespace Go.Proofs.YtdliddjkacbggaaGreatDoor.E
open Go.Lib
set_option linter.unusedVariables false
set_option linter.unusedSimpArgs false
set_option linter.unusedSectionVars false
section
variable {P : Program} {w0 : World} {n : Nat} {l : FL} {H : Heap} {o : Oper} {α : Type} {f : α → List Value} {sz : Nat} {v : Value} {e : TypeId}
theorem zeroCells_rep' {z : Value} {z0 : α} (h : z.cells.toList = f z0) : ∀ m, (Builtin.zeroCells z.cells m).toList = (List.replicate m z0).flatMap f := by
  have hl : (f z0).length = z.cells.size := by rw [← h, Array.length_toList]
  have e0 : ∀ m, (Builtin.zeroCells z.cells m).toList = (List.range (m * z.cells.size)).map (fun i => z.cells[i % z.cells.size]!) := fun m => by
    unfold Builtin.zeroCells
    rw [Array.toList_map, Array.toList_range]
  have e1 : (List.range z.cells.size).map (fun i => z.cells[i % z.cells.size]!) = f z0 := by
    rw [← h]
    apply List.ext_getElem
    · simp
    · intro j h1 h2
      have hj : j < z.cells.size := by simpa using h1
      simp [Nat.mod_eq_of_lt hj, getElem!_pos z.cells j hj]
  intro m
  rw [e0]
  induction m with
  | zero => simp
  | succ m ih =>
    rw [Nat.succ_mul, Nat.add_comm, List.range_add, List.map_append, List.map_map, e1, List.replicate_succ, List.flatMap_cons, ← ih]
    congr 1
    apply List.map_congr_left
    intro j _
    simp
theorem Z.apzOwn {G : Nat → Prop} {xs : List α} {s x : Operand} {t tn : TypeId} {kn kq : IntKind} {bytes m : Nat} {zv : Value} (h : Own G e H f sz v xs) (z0 : α) (ho : o.op = .call { callee := .builtin .append, args := #[s, x], argTypes := #[t, tn] })
    (hinf : Inf P t e sz bytes) (htn : P.underlying tn = some (.int kn)) (hzv : ∀ w, (zeroValue e).run P w = .ok zv w) (hz0 : zv.cells.toList = f z0) (hs0 : 0 < sz) (hs : opv l s = some v) (hx : opv l x = some (.int kq (m : Nat)))
    (hb : (xs.length + m) * bytes ≤ 140737488355328) (hm : xs.length + m ≤ 9223372036854775807) :
    Z P w0 n l H o (fun r H' => Own (fun b => G b ∨ H.size ≤ b) e H' f sz r (xs ++ List.replicate m z0) ∧ Mo G H H') := by
  obtain ⟨ht, i, z, hi, hz, hsz, hby, hzs⟩ := hinf
  subst hsz
  subst hby
  intro a w hf ha
  have hzz : z = zv := by
    have h1 := hzv w
    simp [zeroValue, typeInfo, hi, hz] at h1
    exact h1
  subst hzz
  have hl : ((List.replicate m z0).flatMap f).length = m * i.size := by rw [length_flatMap h.cells, List.length_replicate]
  have h1 : ∀ c ∈ (List.replicate m z0).flatMap f, c.oneCell' = true := by
    intro c hc
    obtain ⟨y, hy, hc⟩ := List.mem_flatMap.1 hc
    exact h.one y c hc
  have hzc : Builtin.zeroCells z.cells m = ((List.replicate m z0).flatMap f).toArray := by apply Array.ext'; rw [zeroCells_rep' hz0]
  have hw : IntKind.i64.wrap (m : Int) = m := by rw [IntKind.wrap_i64]; omega
  have hneg : ¬ ((m : Int) < 0) := by omega
  have h48i : ¬ (281474976710656 < (m : Int) * (i.bytes : Int)) := by
    have : m * i.bytes ≤ (xs.length + m) * i.bytes := Nat.mul_le_mul_right _ (by omega)
    rw [← Int.natCast_mul]
    omega
  have grown : ∀ (old : Nat) (r : Value), old < xs.length + m → r = .slice (some ⟨w.heap.size, 0, none⟩) (xs.length + m) (grownCap w (xs.length + m) old e) → ∀ ob, ob = Obj.cells ((xs.flatMap f).toArray ++ Builtin.zeroCells z.cells m ++ Builtin.zeroCells z.cells (grownCap w (xs.length + m) old e - (xs.length + m))) e →
      At w0 (w.drew.alloc ob).heap (w.drew.alloc ob) ∧ Own (fun b => G b ∨ H.size ≤ b) e (w.drew.alloc ob).heap f i.size r (xs ++ List.replicate m z0) ∧ Mo G H (w.drew.alloc ob).heap := by
    rintro old r ho' rfl ob rfl
    have hge := grownCap_ge w (xs.length + m) old e
    have hcm : grownCap w (xs.length + m) old e ≤ maxLen := grownCap_le_maxLen w (xs.length + m) old e (by unfold maxLen; omega)
    have ha2 : At w0 H w.drew := ha.drew
    refine ⟨⟨rfl, ha.os, ha.tape, ha.output, ha2.dr⟩, ?_, ?_⟩
    · have := Own.new (e := e) (G' := fun b => G b ∨ H.size ≤ b) (w := w.drew) (z := z) (cap := grownCap w (xs.length + m) old e) (zs := xs ++ List.replicate m z0) h.cells h.one hzs (.inr (by rw [ha2.heap]; exact Nat.le_refl _)) (by simpa using hge) hcm
      rw [hzc]
      simpa using this
    · rw [(ha2.alloc _).heap]; exact Mo.push _ _ _
  rcases h.ex with ⟨rfl, rfl⟩ | ⟨g, cap', cur, rfl, hg, hh, r1, r2, r3, r4⟩
  · by_cases hm0 : m = 0
    · subst hm0
      refine ⟨.slice none 0 0, H, w, ?_, ha, by simpa using h.imp (fun b _ hg => .inl hg), Mo.refl _ _⟩
      simp [execOp, ho, resolve, invoke, builtin, hf.eval hs, hf.eval hx, Builtin.append_, run_underlying ht, run_underlying htn, sizeOf, typeInfo, hi, asInt, asIntOf, IntKind.wrap_i64]
    · simp only [List.length_nil, Nat.zero_add] at hb hm
      have hrun := run_append_nil_zeros (P := P) w t tn o.type e i z kq kn ht htn hi hz m (by omega) hs0 (by omega) (by omega)
      have := grown 0 _ (by simp; omega) rfl _ rfl
      simp only [List.length_nil, Nat.zero_add, List.flatMap_nil, List.nil_append, Array.empty_append] at this
      exact ⟨_, _, _, by simp [execOp, ho, resolve, invoke, builtin, hf.eval hs, hf.eval hx, hrun], this.1, this.2.1, this.2.2⟩
  · obtain ⟨fz, hh0, hsf⟩ := id hh
    have hg' : w.heap[g]? = some (.cells cur e fz) := by rw [ha.heap]; exact hh0
    by_cases hroom : xs.length + m ≤ cap'
    · have hfit : xs.length * i.size + ((List.replicate m z0).flatMap f).length ≤ cur.size := by rw [hl, r3, ← Nat.add_mul]; exact Nat.mul_le_mul_right _ hroom
      have hst := run_storeCells_soft P g (xs.length * i.size) e fz ((List.replicate m z0).flatMap f) 0 cur w hg' hsf (by simpa using hfit) h1
      simp only [Nat.add_zero] at hst
      have hrun : (Builtin.append_ #[t, tn] o.type #[.slice (some ⟨g, 0, none⟩) xs.length cap', .int kq m]).run P w = .ok (.slice (some ⟨g, 0, none⟩) (xs.length + m) cap') (w.setRow g (cur.toList.take (xs.length * i.size) ++ (List.replicate m z0).flatMap f ++ cur.toList.drop (xs.length * i.size + ((List.replicate m z0).flatMap f).length)).toArray) := by
        by_cases hm0 : m = 0
        · subst hm0
          simp only [List.replicate_zero, List.flatMap_nil] at hst
          simp [Builtin.append_, run_underlying ht, run_underlying htn, sizeOf, typeInfo, hi, asInt, asIntOf, IntKind.wrap_i64, r1, Addr.add_lit, hst]
        · have hns : ¬ (m * i.size = 0) := Nat.mul_ne_zero hm0 (by omega)
          simp [Builtin.append_, run_underlying ht, run_underlying htn, sizeOf, typeInfo, zeroValue, hi, hz, asInt, asIntOf, hw, hneg, h48i, hns, hroom, hzc, Addr.add_lit, hst]
      refine ⟨.slice (some ⟨g, 0, none⟩) (xs.length + m) cap', (w.setRow g (cur.toList.take (xs.length * i.size) ++ (List.replicate m z0).flatMap f ++ cur.toList.drop (xs.length * i.size + ((List.replicate m z0).flatMap f).length)).toArray).heap, w.setRow g (cur.toList.take (xs.length * i.size) ++ (List.replicate m z0).flatMap f ++ cur.toList.drop (xs.length * i.size + ((List.replicate m z0).flatMap f).length)).toArray, by simp [execOp, ho, resolve, invoke, builtin, hf.eval hs, hf.eval hx, hrun], ⟨rfl, ha.os, ha.tape, ha.output, ha.dr⟩, ⟨h.cells, h.one, .inr ⟨g, cap', _, by rw [List.length_append, List.length_replicate], .inl hg, ⟨fz, setRow_heap w g cur _ e _ hg', hsf.1, fun i hi => hsf.2 i (by simp only [List.size_toArray, List.length_append, List.length_take, List.length_drop, Array.length_toList] at hi; omega)⟩, by rw [List.length_append, List.length_replicate]; exact hroom, r2, ?_, ?_⟩⟩, ?_⟩
      · simp only [List.size_toArray, List.length_append, List.length_take, List.length_drop, Array.length_toList]
        omega
      · have hlx := length_flatMap h.cells xs
        rw [r4, ← List.flatMap_append, List.length_append, Nat.add_mul, List.length_replicate, ← hl, ← hlx, ← List.length_append, ← List.flatMap_append]
        exact List.take_left
      · exact (setRow_mo ha g _).weaken (fun b _ e => by rw [e]; exact hg)
    · have holds : ∀ j c, (xs.flatMap f)[j]? = some c → w.drew.cell? ((⟨g, 0, none⟩ : Addr).add j) = some c := h.rd.pts h.cells rfl ha.drew
      have hold : (Builtin.firstCells i.size xs.length (.slice (some ⟨g, 0, none⟩) xs.length cap')).run P w.drew = .ok (xs.flatMap f).toArray w.drew := run_firstCells_some (P := P) w.drew i.size xs.length ⟨g, 0, none⟩ xs.length cap' _ (length_flatMap h.cells xs) holds
      have hrun := Lib.run_append_grow_zeros (P := P) w t tn o.type e i z kq kn ht htn hi hz (some ⟨g, 0, none⟩) xs.length cap' (xs.flatMap f) hold m (by omega) hs0 (by omega) (by omega) (by
        have : m * i.bytes ≤ (xs.length + m) * i.bytes := Nat.mul_le_mul_right _ (by omega)
        omega) (growslice_fits (by omega) hb)
      have := grown cap' _ (by omega) rfl _ rfl
      exact ⟨_, _, _, by simp [execOp, ho, resolve, invoke, builtin, hf.eval hs, hf.eval hx, hrun], this.1, this.2.1, this.2.2⟩
theorem Z.apz {k : Nat} {xs : List α} {s x : Operand} {t tn : TypeId} {kn kq : IntKind} {bytes m : Nat} {zv : Value} (h : Ow k e H f sz v xs) (z0 : α) (ho : o.op = .call { callee := .builtin .append, args := #[s, x], argTypes := #[t, tn] })
    (hinf : Inf P t e sz bytes) (htn : P.underlying tn = some (.int kn)) (hzv : ∀ w, (zeroValue e).run P w = .ok zv w) (hz0 : zv.cells.toList = f z0) (hs0 : 0 < sz) (hs : opv l s = some v) (hx : opv l x = some (.int kq (m : Nat)))
    (hb : (xs.length + m) * bytes ≤ 140737488355328) (hm : xs.length + m ≤ 9223372036854775807) :
    Z P w0 n l H o (fun r H' => ∃ k', Ow k' e H' f sz r (xs ++ List.replicate m z0) ∧ (k' = 0 ∨ k' = k ∨ H.size < k') ∧ Mo (fun b => b + 1 = k) H H') :=
  (Z.apzOwn h.own z0 ho hinf htn hzv hz0 hs0 hs hx hb hm).mono fun r H' ⟨h1, h2⟩ => by
    obtain ⟨k', h3, h4⟩ := Ow.of h1
    refine ⟨k', h3, ?_, h2⟩
    rcases h4 with rfl | ⟨g, rfl, h5⟩
    · exact .inl rfl
    · omega
theorem Y.sliceV' {x : Operand} {lo hi : Option Operand} {t e : TypeId} {a : Option Addr} {len cap sz : Nat} (i j : Nat) (ho : o.op = .slice t x lo hi none) (ht : ∀ w, (underlying t).run P w = .ok (.slice e) w) (hs : ∀ w, (sizeOf e).run P w = .ok sz w) (hx : opv l x = some (.slice a len cap))
    (hlo : lo = none ∧ i = 0 ∨ ∃ p k iv, lo = some p ∧ opv l p = some (.int k iv) ∧ iv = (i : Int)) (hhi : hi = none ∧ j = len ∨ ∃ p k iv, hi = some p ∧ opv l p = some (.int k iv) ∧ iv = (j : Int)) (hij : i ≤ j) (hj : j ≤ cap) :
    Y P w0 n l H o (.slice (if cap = i then a else a.map (·.add (i * sz))) (j - i) (cap - i)) := by
  intro ac w hf ha
  have e1 : ∀ w, (Instr.sliceBounds true len cap (lo.map ac.eval) (hi.map ac.eval) none).run P w = .ok (i, j, cap) w := by
    intro w
    rcases hlo with ⟨rfl, rfl⟩ | ⟨p, k, iv, rfl, h1, rfl⟩ <;> rcases hhi with ⟨rfl, rfl⟩ | ⟨p2, k2, iv2, rfl, h3, rfl⟩ <;>
      simp [Instr.sliceBounds, Instr.sliceBound, asIntOf, hf.eval, *]
  have hu : ∀ w, (underlying t).run P w = .ok (.slice e) w := ht
  simp [execOp, ho, hf.eval hx, Instr.sliceAt, Instr.slice, hu, hs, e1]
theorem Y.capV' {x : Operand} {t e : TypeId} {a : Option Addr} {len cap : Nat} (ho : o.op = .call { callee := .builtin .cap, args := #[x], argTypes := #[t] }) (ht : ∀ w, (underlying t).run P w = .ok (.slice e) w) (hx : opv l x = some (.slice a len cap)) : Y P w0 n l H o (.int .i64 cap) := by
  intro ac w hf ha
  simp [execOp, ho, hf.eval hx, resolve, invoke, builtin, Builtin.cap_, ht, goInt]
end
end Go.Proofs.YtdliddjkacbggaaGreatDoor.E
/-
  Rows of bytes put together; a write, done whole or in part.
-/
namespace Go.Proofs.YtdliddjkacbggaaGreatDoor.SimB
open Go.Proofs.YtdliddjkacbggaaGreatDoor.E Go.RowKit Go.Proofs.YtdliddjkacbggaaGreatDoor.SimA
set_option maxRecDepth 20000
set_option linter.unusedVariables false
set_option linter.unusedSimpArgs false
set_option linter.unusedSectionVars false
set_option maxRecDepth 100000 in
theorem inf22 : Inf Tryz.prog 22 34 1 24 := ⟨Tryz.underlying22, _, _, rfl, rfl, rfl, rfl, rfl⟩
set_option maxRecDepth 100000 in
theorem inf34 : Inf Tryz.prog 34 5 1 1 := ⟨Tryz.underlying34, _, _, rfl, rfl, rfl, rfl, rfl⟩
theorem bclone_ct (v1 : Value) (a : List UInt8) (w0 : World) (H0 : Heap)
    (ha : RdT H0 fB 1 v1 a) (hal : a.length ≤ 140737488355328) :
    Ct Tryz.prog w0 64 #[v1] H0 (fun r H2 => ∃ s : SV, ∃ k : Nat, r = s.v ∧ (Ow k 5 H2 fB 1 s.v a) ∧ (Nx 0 H0.size k) ∧ Nw H0 H2) := by
  refine Ct.enter (args := [v1]) Tryz.func64 rfl rfl rfl ?_
  intro Q0 hret
  have hm0 : Nw H0 H0 := Mo.refl _ _
  replace ha := ha.bnd
  have bf_ha := ha.bf
  obtain ⟨p, cp, rfl, _, _, hne⟩ := id ha.ex
  refine CW.seq (fun K1 hK1 hE1 => ?_)
  refine CW.region ?_
  refine LR.v (Y.assign rfl rfl) (Wd.u rfl) rfl rfl ?_
  refine LR.nil ?_
  refine hK1 _ _ ?_
  refine CW.seq (fun K2 hK2 hE2 => ?_)
  refine CW.seq (fun K3 hK3 hE3 => ?_)
  refine CW.region ?_
  refine LR.v (Y.move rfl rfl) (Wd.u rfl) rfl rfl ?_
  refine LR.v (Y.sleq rfl Tryz.underlying34 rfl rfl) (Wd.u rfl) rfl rfl ?_
  refine LR.nil ?_
  refine hK3 _ _ ?_
  refine CW.cond rfl (fun c4 => ?_) (fun c4 => ?_)
  ·
    obtain rfl : a = [] := by
      apply Decidable.byContradiction
      intro h
      obtain ⟨ad, h1, _⟩ := hne h
      rw [h1] at c4; cases c4
    refine CW.seq (fun K4 hK4 hE4 => ?_)
    refine CW.region ?_
    refine LR.v (Y.assign rfl rfl) (Wd.u rfl) rfl rfl ?_
    refine LR.nil ?_
    refine hK4 _ _ ?_
    refine CW.ret (hE2 .ret nofun _ _ (hret .ret (.inr rfl) _ _ _ (res1 rfl rfl) ?_))
    exact ⟨⟨none, 0, 0⟩, 0, rfl, Ow.nil fB_len fB_one, Nx.refl _ _, hm0⟩
  ·
    
    refine CW.skip ?_
    refine hK2 _ _ ?_
    refine CW.seq (fun K5 hK5 hE5 => ?_)
    refine CW.region ?_
    refine LR.z (Z.litw _ (([] : List UInt8)) rfl inf34 rfl rfl rfl (by decide) (by decide) fB_len fB_one (rfl)) (Wd.u rfl) rfl rfl (fun v5 H5 r5 => ?_)
    obtain ⟨ow5, hs5, ob5, hH5⟩ := r5
    have hzs5 : H5.size = H0.size + 1 := by rw [hH5]; simp
    have df1 := (DF.new (bf_ha.mono hm0.size) : DF _ (H0.size + 1))
    have nx2 : Nx 0 H0.size (H0.size + 1) := Nx.new hm0.size
    replace ha := ha.nw hs5
    replace hm0 := hm0.tr hs5
    have hz1 := hs5.size
    refine LR.v (Y.move rfl rfl) (Wd.u rfl) rfl rfl ?_
    refine LR.z (Z.apnd ow5 ha rfl inf34 rfl rfl (by first | omega | (simp; omega)) (by first | omega | (simp; omega))) (Wd.u rfl) rfl rfl (fun v7 H7 r7 => ?_)
    obtain ⟨k7, ow7, hk7, hs7⟩ := r7
    replace hk7 : Nx (H0.size + 1) H5.size k7 := hk7
    replace hs7 := hs7.md
    have df3 := DF.app (df1) (bf_ha.mono hm0.size) hk7
    have nx4 : Nx 0 H0.size k7 := Nx.tr (nx2) hk7 hm0.size
    replace ha := ha.upL hs7 (DFL.cons df1 DFL.nil)
    replace hm0 := (Mo.trL (ks := []) (hm0.mdn []) hs7 (MIL.cons (MI.app MI.z (nx2) (Nat.le_refl _)) MIL.nil)).nil
    have hz2 := hs7.size
    have hle_ow7 := ow7.le
    refine LR.v (Y.assign rfl rfl) (Wd.u rfl) rfl rfl ?_
    refine LR.nil ?_
    refine hK5 _ _ ?_
    refine CW.ret (hret .ret (.inr rfl) _ _ _ (res1 rfl rfl) ?_)
    obtain ⟨s7, rfl⟩ : ∃ s : SV, v7 = s.v := ⟨toSV v7, ow7.sv.symm⟩
    exact ⟨s7, k7, rfl, by simpa using ow7, nx4, hm0⟩


def catP (l : List (SV × List UInt8)) : List UInt8 := l.flatMap (·.2)
theorem catP_take {l : List (SV × List UInt8)} {i : Nat} (h : i < l.length) : catP (l.take (i + 1)) = catP (l.take i) ++ l[i].2 := by
  unfold catP; rw [List.take_succ_eq_append_getElem h, List.flatMap_append]; simp
theorem catP_le (l : List (SV × List UInt8)) (i : Nat) : (catP (l.take i)).length ≤ (catP l).length := by
  have : catP l = catP (l.take i) ++ catP (l.drop i) := by unfold catP; rw [← List.flatMap_append, List.take_append_drop]
  rw [this, List.length_append]; omega
theorem catP_at {l : List (SV × List UInt8)} {i : Nat} (h : i < l.length) : (catP (l.take i)).length + l[i].2.length ≤ (catP l).length := by
  have := catP_le l (i + 1)
  rw [catP_take h, List.length_append] at this; exact this

theorem grow_ct (m : Nat) (w0 : World) (H0 : Heap)
    (hm : m ≤ 1099511627776) :
    Ct Tryz.prog w0 114 #[.slice none 0 0, .int .i64 (m : Int)] H0 (fun r H2 => ∃ s : SV, ∃ k : Nat, r = s.v ∧ (Ow k 5 H2 fB 1 s.v []) ∧ (Nx 0 H0.size k) ∧ Nw H0 H2) := by
  refine Ct.enter (args := [.slice none 0 0, .int .i64 (m : Int)]) Tryz.func114 rfl rfl rfl ?_
  intro Q0 hret
  have hm0 : Nw H0 H0 := Mo.refl _ _
  refine CW.seq (fun K1 hK1 hE1 => ?_)
  refine CW.region ?_
  refine LR.v (Y.assign rfl rfl) (Wd.u rfl) rfl rfl ?_
  refine LR.nil ?_
  refine hK1 _ _ ?_
  refine CW.seq (fun K2 hK2 hE2 => ?_)
  refine CW.seq (fun K3 hK3 hE3 => ?_)
  refine CW.region ?_
  refine LR.v (Y.move rfl rfl) (Wd.u rfl) rfl rfl ?_
  refine LR.v ((Y.lss rfl rfl rfl).isF (by omega)) (Wd.u rfl) rfl rfl ?_
  refine LR.nil ?_
  refine hK3 _ _ ?_
  refine CW.cond_f rfl ?_
  refine CW.skip ?_
  refine hK2 _ _ ?_
  refine CW.seq (fun K4 hK4 hE4 => ?_)
  refine CW.seq (fun K5 hK5 hE5 => ?_)
  refine CW.region ?_
  refine LR.v (Y.move rfl rfl) (Wd.u rfl) rfl rfl ?_
  refine LR.v (Y.move rfl rfl) (Wd.u rfl) rfl rfl ?_
  refine LR.v (Y.capV' rfl Tryz.runUnderlying34 rfl) (Wd.u rfl) rfl rfl ?_
  refine LR.v (Y.move rfl rfl) (Wd.u rfl) rfl rfl ?_
  refine LR.v (Y.cast (v2 := .int .i64 ((0 : Nat) : Int)) (Y.len (Rd.nil (fun _ => False) _ fB 1) rfl Tryz.runUnderlying34 rfl) (rfl)) (Wd.u rfl) rfl rfl ?_
  refine LR.v (Y.cast (v2 := .int .i64 ((0 : Nat) : Int)) (Y.subi rfl rfl rfl (by omega)) (rfl)) (Wd.u rfl) rfl rfl ?_
  refine LR.v (Y.cast (v2 := .int .i64 (m : Int)) (Y.subi rfl rfl rfl (by omega)) (ivv (by simp))) (Wd.u rfl) rfl rfl ?_
  refine LR.v (Y.assign rfl rfl) (Wd.u rfl) rfl rfl ?_
  refine LR.nil ?_
  refine hK5 _ _ ?_
  refine CW.seq (fun K6 hK6 hE6 => ?_)
  refine CW.region ?_
  refine LR.v (Y.move rfl rfl) (Wd.u rfl) rfl rfl ?_
  refine LR.v (Y.gtr rfl rfl rfl) (Wd.u rfl) rfl rfl ?_
  refine LR.nil ?_
  refine hK6 _ _ ?_
  refine CW.condp rfl (fun c16 => ?_) (fun c16 => ?_)
  ·
    refine CW.region ?_
    refine LR.v (Y.move rfl rfl) (Wd.u rfl) rfl rfl ?_
    refine LR.v (Y.move rfl rfl) (Wd.u rfl) rfl rfl ?_
    refine LR.v (Y.capV' rfl Tryz.runUnderlying34 rfl) (Wd.u rfl) rfl rfl ?_
    refine LR.v (Y.sliceV' 0 0 rfl Tryz.runUnderlying34 Tryz.sizeOf5 rfl (.inl ⟨rfl, rfl⟩) (.inr ⟨_, _, _, rfl, rfl, rfl⟩) (by omega) (by omega)) (Wd.u rfl) rfl rfl ?_
    refine LR.v (Y.move rfl rfl) (Wd.u rfl) rfl rfl ?_
    have nl22 : Ow 0 5 H0 fB 1 (.slice none 0 0) [] := Ow.nil fB_len fB_one
    refine LR.z (Z.apz (m := m) nl22 (0 : UInt8) rfl inf34 Tryz.underlying3 Tryz.zeroValue5 rfl (by decide) rfl rfl (by simp; omega) (by simp; omega)) (Wd.u rfl) rfl rfl (fun v22 H22 r22 => ?_)
    obtain ⟨k22, ow22, hk22, hs22⟩ := r22
    replace hk22 : Nx 0 H0.size k22 := hk22
    replace hs22 := hs22.md
    have nx1 : Nx 0 H0.size k22 := Nx.tr (Nx.refl 0 _) hk22 hm0.size
    replace hm0 := (Mo.trL (ks := []) (hm0.mdn []) hs22 (MIL.cons MI.z MIL.nil)).nil
    have hz1 := hs22.size
    have hle_ow22 := ow22.le
    refine LR.v (Y.move rfl rfl) (Wd.u rfl) rfl rfl ?_
    refine LR.v (Y.cast (v2 := .int .i64 ((0 : Nat) : Int)) (Y.len (Rd.nil (fun _ => False) _ fB 1) rfl Tryz.runUnderlying34 rfl) (rfl)) (Wd.u rfl) rfl rfl ?_
    refine LR.e (g := fun v => v) (Y.owFront ow22 (0) rfl Tryz.runUnderlying34 Tryz.sizeOf5 rfl rfl (by first | rfl | omega) (by omega)) (Wd.u rfl) rfl rfl (fun v25 ow25 => ?_)
    refine LR.v (Y.assign rfl rfl) (Wd.u rfl) rfl rfl ?_
    refine LR.nil ?_
    refine hK4 _ _ ?_
    refine CW.seq (fun K7 hK7 hE7 => ?_)
    refine CW.region ?_
    refine LR.v (Y.move rfl rfl) (Wd.u rfl) rfl rfl ?_
    refine LR.v (Y.assign rfl rfl) (Wd.u rfl) rfl rfl ?_
    refine LR.nil ?_
    refine hK7 _ _ ?_
    refine CW.ret (hret .ret (.inr rfl) _ _ _ (res1 rfl rfl) ?_)
    obtain ⟨s25, rfl⟩ : ∃ s : SV, v25 = s.v := ⟨toSV v25, ow25.sv.symm⟩
    exact ⟨s25, k22, rfl, by simpa using ow25, nx1, hm0⟩
  ·
    refine CW.skip ?_
    refine hK4 _ _ ?_
    refine CW.seq (fun K8 hK8 hE8 => ?_)
    refine CW.region ?_
    refine LR.v (Y.move rfl rfl) (Wd.u rfl) rfl rfl ?_
    refine LR.v (Y.assign rfl rfl) (Wd.u rfl) rfl rfl ?_
    refine LR.nil ?_
    refine hK8 _ _ ?_
    refine CW.ret (hret .ret (.inr rfl) _ _ _ (res1 rfl rfl) ?_)
    exact ⟨⟨none, 0, 0⟩, 0, rfl, Ow.nil fB_len fB_one, Nx.refl _ _, hm0⟩

theorem concat_ct (v : Value) (l : List (SV × List UInt8)) (w0 : World) (H0 : Heap)
    (hl : RdT H0 fP 1 v l) (hx : ∀ x ∈ l, RdT H0 fB 1 x.1.v x.2) (hc : (catP l).length ≤ 1099511627776) :
    Ct Tryz.prog w0 75 #[v] H0 (fun r H2 => ∃ s : SV, ∃ k : Nat, r = s.v ∧ (Ow k 5 H2 fB 1 s.v (catP l)) ∧ (Nx 0 H0.size k) ∧ Nw H0 H2) := by
  refine Ct.enter (args := [v]) Tryz.func75 rfl rfl rfl ?_
  intro Q0 hret
  have hm0 : Nw H0 H0 := Mo.refl _ _
  replace hl := hl.bnd
  have bf_hl := hl.bf
  replace hx := fun x hx0 => (hx x hx0).bnd
  have bf_hx : BF (fun b => True ∧ b < H0.size) H0.size := fun b h => h.2
  have hlm := hl.len
  refine CW.seq (fun K1 hK1 hE1 => ?_)
  refine CW.region ?_
  refine LR.v (Y.assign rfl rfl) (Wd.u rfl) rfl rfl ?_
  refine LR.nil ?_
  refine hK1 _ _ ?_
  refine CW.seq (fun K2 hK2 hE2 => ?_)
  refine CW.region ?_
  refine LR.v (Y.assign rfl rfl) (Wd.u rfl) rfl rfl ?_
  refine LR.nil ?_
  refine hK2 _ _ ?_
  refine CW.seq (fun K3 hK3 hE3 => ?_)
  refine CW.seq (fun K4 hK4 hE4 => ?_)
  refine CW.region ?_
  refine LR.v (Y.move rfl rfl) (Wd.u rfl) rfl rfl ?_
  refine LR.v (Y.len hl rfl Tryz.runUnderlying22 rfl) (Wd.u rfl) rfl rfl ?_
  refine LR.v (Y.move rfl rfl) (Wd.u rfl) rfl rfl ?_
  refine LR.nil ?_
  refine hK4 _ _ ?_
  refine CW.block (fun K5 hK5 hX5 hE5 => ?_)
  refine CW.loop (fun (i : (Nat)) => [(0, v), (3, .int .i64 ((catP (l.take i)).length : Int)), (9, v), (10, .int .i64 l.length), (11, .int .i64 i)])
    (fun (i : (Nat)) (H : Heap) => (i ≤ l.length) ∧ Nw H0 H)
    (fun (i : (Nat)) => l.length - i) 0 ⟨rfl, rfl, rfl, rfl, rfl, trivial⟩ ?_ ?_
  ·
    exact ⟨(by omega), Mo.refl _ _⟩
  intro i HL1 hI1 K6 hN6 hE6
  obtain ⟨hi, hlm1⟩ := hI1
  replace hl := hl.nw hlm1
  replace hx := fun x hx0 => (hx x hx0).nw hlm1
  replace hm0 := hm0.tr hlm1
  have hz1 := hlm1.size
  refine CW.seq (fun K7 hK7 hE7 => ?_)
  refine CW.region ?_
  refine LR.v (Y.lss rfl rfl rfl) (Wd.u rfl) rfl rfl ?_
  refine LR.nil ?_
  refine hK7 _ _ ?_
  refine CW.seq (fun K8 hK8 hE8 => ?_)
  refine CW.condp rfl (fun c12 => ?_) (fun c12 => ?_)
  ·
    have hil : i < l.length := by omega
    have hca := catP_at hil
    have hxi := hx l[i] (List.getElem_mem hil)
    refine CW.skip ?_
    refine hK8 _ _ ?_
    refine CW.seq (fun K9 hK9 hE9 => ?_)
    refine CW.block (fun K10 hK10 hX10 hE10 => ?_)
    refine CW.seq (fun K11 hK11 hE11 => ?_)
    refine CW.region ?_
    refine LR.e (g := fun ad => .pointer (some ad)) (Y.indexAddrF hl (i) rfl Tryz.runUnderlying22 Tryz.sizeOf34 rfl rfl (by first | rfl | omega) (by first | omega | (simp; omega) | (simp; done))) (Wd.u rfl) rfl rfl (fun ad13 pt13 => ?_)
    have bf_pt13 := bf_hl
    refine LR.v (Y.load1 pt13.pt rfl Tryz.isAgg34 rfl) (Wd.u rfl) rfl rfl ?_
    refine LR.v (Y.assign rfl rfl) (Wd.u rfl) rfl rfl ?_
    refine LR.nil ?_
    refine hK11 _ _ ?_
    refine CW.seq (fun K12 hK12 hE12 => ?_)
    refine CW.region ?_
    refine LR.v (Y.move rfl rfl) (Wd.u rfl) rfl rfl ?_
    refine LR.v (Y.move rfl rfl) (Wd.u rfl) rfl rfl ?_
    refine LR.v (Y.len hxi rfl Tryz.runUnderlying34 rfl) (Wd.u rfl) rfl rfl ?_
    refine LR.v (Y.cast (v2 := .int .i64 ((catP (l.take (i + 1))).length : Int)) (Y.addi rfl rfl rfl (by omega)) (ivv (by rw [catP_take hil, List.length_append]; omega))) (Wd.u rfl) rfl rfl ?_
    refine LR.v (Y.assign rfl rfl) (Wd.u rfl) rfl rfl ?_
    refine LR.nil ?_
    refine hK12 _ _ ?_
    refine CW.seq (fun K13 hK13 hE13 => ?_)
    refine CW.region ?_
    refine LR.v (Y.move rfl rfl) (Wd.u rfl) rfl rfl ?_
    refine LR.v ((Y.lss rfl rfl rfl).isF (by omega)) (Wd.u rfl) rfl rfl ?_
    refine LR.nil ?_
    refine hK13 _ _ ?_
    refine CW.cond_f rfl ?_
    refine CW.skip ?_
    refine hK10 _ _ ?_
    refine hK9 _ _ ?_
    refine CW.region ?_
    refine LR.v (Y.addi rfl rfl rfl (by omega)) (Wd.u rfl) rfl rfl ?_
    refine LR.v (Y.move rfl rfl) (Wd.u rfl) rfl rfl ?_
    refine LR.nil ?_
    have hci := catP_take hil
    refine QN.sub (hN6 (i + 1) _ ?_ ?_) ⟨rfl, (iv (by omega)), rfl, (iv (by omega)), (iv (by omega)), trivial⟩
    · exact ⟨(by omega), hlm1⟩
    · first | omega | (simp only; omega) | (simp; omega)
  ·
    obtain rfl : i = l.length := by omega
    refine CW.exit (hE8 (.exit 0) nofun _ _ (hE6 (.exit 0) nofun _ _ (hX5 _ _ ?_)))
    refine hK3 _ _ ?_
    refine CW.seq (fun K14 hK14 hE14 => ?_)
    refine CW.region ?_
    refine LR.v (Y.cast (v2 := .int .i64 ((catP l).length : Int)) (Y.move rfl rfl) (by rw [List.take_length])) (Wd.u rfl) rfl rfl ?_
    -- call slices.Grow[[]byte,byte]
    refine LR.call rfl Tryz.call114 rfl (Wd.u rfl) rfl rfl (grow_ct (catP l).length w0 _ hc) (fun v24 H24 r24 => ?_)
    obtain ⟨s24, k24, rfl, ow6, hk24, hs24⟩ := r24
    have df1 := DF.app (DF.z) (bf_hl.mono hm0.size) hk24
    have df2 := DF.app (DF.z) (bf_hx.mono hm0.size) hk24
    have nx3 : Nx 0 H0.size k24 := Nx.tr (Nx.refl 0 _) hk24 hm0.size
    replace hl := hl.nw hs24
    replace hx := fun x hx0 => (hx x hx0).nw hs24
    replace hm0 := hm0.tr hs24
    have hz2 := hs24.size
    have hle_ow6 := ow6.le
    refine LR.v (Y.assign rfl rfl) (Wd.u rfl) rfl rfl ?_
    refine LR.nil ?_
    refine hK14 _ _ ?_
    refine CW.seq (fun K15 hK15 hE15 => ?_)
    refine CW.seq (fun K16 hK16 hE16 => ?_)
    refine CW.region ?_
    refine LR.v (Y.move rfl rfl) (Wd.u rfl) rfl rfl ?_
    refine LR.v (Y.len hl rfl Tryz.runUnderlying22 rfl) (Wd.u rfl) rfl rfl ?_
    refine LR.v (Y.move rfl rfl) (Wd.u rfl) rfl rfl ?_
    refine LR.nil ?_
    refine hK16 _ _ ?_
    refine CW.block (fun K17 hK17 hX17 hE17 => ?_)
    refine CW.loop (fun (s_ : (Nat) × (SV) × (Nat)) => match s_ with | (q, s6, k6) => [(6, s6.v), (25, v), (26, .int .i64 l.length), (27, .int .i64 q)])
      (fun (s_ : (Nat) × (SV) × (Nat)) (H : Heap) => match s_ with | (q, s6, k6) => (q ≤ l.length) ∧ (Ow k6 5 H fB 1 s6.v (catP (l.take q))) ∧ (Nx k24 H24.size k6) ∧ Mo (Ms [k24]) H24 H)
      (fun (s_ : (Nat) × (SV) × (Nat)) => match s_ with | (q, s6, k6) => l.length - q) (0, s24, k24) ⟨rfl, rfl, rfl, rfl, trivial⟩ ?_ ?_
    ·
      exact ⟨(by omega), by simpa [catP] using ow6, Nx.refl _ _, Mo.refl _ _⟩
    rintro ⟨q, s6, k6⟩ HL2 hI2 K18 hN18 hE18
    obtain ⟨hq, ow6, nxl_ow6, hlm2⟩ := hI2
    have df4 := DF.app (df1) (bf_hl.mono hm0.size) nxl_ow6
    have df5 := DF.app (df2) (bf_hx.mono hm0.size) nxl_ow6
    have nx6 : Nx 0 H0.size k6 := Nx.tr (nx3) nxl_ow6 hm0.size
    replace hl := hl.upL hlm2 (DFL.cons df1 DFL.nil)
    replace hx := fun x hx0 => (hx x hx0).upL hlm2 (DFL.cons df2 DFL.nil)
    replace hm0 := (Mo.trL (ks := []) (hm0.mdn []) hlm2 (MIL.cons (MI.app MI.z (nx3) (Nat.le_refl _)) MIL.nil)).nil
    have hz3 := hlm2.size
    have hle_ow6 := ow6.le
    have nx7 := nxl_ow6
    refine CW.seq (fun K19 hK19 hE19 => ?_)
    refine CW.region ?_
    refine LR.v (Y.lss rfl rfl rfl) (Wd.u rfl) rfl rfl ?_
    refine LR.nil ?_
    refine hK19 _ _ ?_
    refine CW.seq (fun K20 hK20 hE20 => ?_)
    refine CW.condp rfl (fun c28 => ?_) (fun c28 => ?_)
    ·
      have hql : q < l.length := by omega
      have hcb := catP_at hql
      have hxq := hx l[q] (List.getElem_mem hql)
      refine CW.skip ?_
      refine hK20 _ _ ?_
      refine CW.seq (fun K21 hK21 hE21 => ?_)
      refine CW.block (fun K22 hK22 hX22 hE22 => ?_)
      refine CW.seq (fun K23 hK23 hE23 => ?_)
      refine CW.region ?_
      refine LR.e (g := fun ad => .pointer (some ad)) (Y.indexAddrF hl (q) rfl Tryz.runUnderlying22 Tryz.sizeOf34 rfl rfl (by first | rfl | omega) (by first | omega | (simp; omega) | (simp; done))) (Wd.u rfl) rfl rfl (fun ad29 pt29 => ?_)
      have bf_pt29 := bf_hl
      refine LR.v (Y.load1 pt29.pt rfl Tryz.isAgg34 rfl) (Wd.u rfl) rfl rfl ?_
      refine LR.v (Y.assign rfl rfl) (Wd.u rfl) rfl rfl ?_
      refine LR.nil ?_
      refine hK23 _ _ ?_
      refine CW.region ?_
      refine LR.v (Y.move rfl rfl) (Wd.u rfl) rfl rfl ?_
      refine LR.v (Y.move rfl rfl) (Wd.u rfl) rfl rfl ?_
      refine LR.z (Z.apnd ow6 hxq rfl inf34 rfl rfl (by first | omega | (simp; omega)) (by first | omega | (simp; omega))) (Wd.u rfl) rfl rfl (fun v33 H33 r33 => ?_)
      obtain ⟨k33, ow6, hk33, hs33⟩ := r33
      replace hk33 : Nx k6 HL2.size k33 := hk33
      replace hs33 := hs33.md
      have df8 := DF.app (df4) (bf_hl.mono hm0.size) hk33
      have df9 := DF.app (df5) (bf_hx.mono hm0.size) hk33
      have nx10 : Nx 0 H0.size k33 := Nx.tr (nx6) hk33 hm0.size
      have nx11 : Nx k24 H24.size k33 := Nx.tr (nx7) hk33 hlm2.size
      replace hl := hl.upL hs33 (DFL.cons df4 DFL.nil)
      replace hx := fun x hx0 => (hx x hx0).upL hs33 (DFL.cons df5 DFL.nil)
      replace hm0 := (Mo.trL (ks := []) (hm0.mdn []) hs33 (MIL.cons (MI.app MI.z (nx6) (Nat.le_refl _)) MIL.nil)).nil
      replace hlm2 := hlm2.trL hs33 (MIL.cons (MI.app (MI.root (by simp)) (nx7) (Nat.le_refl _)) MIL.nil)
      have hz4 := hs33.size
      have hle_ow6 := ow6.le
      refine LR.v (Y.assign rfl rfl) (Wd.u rfl) rfl rfl ?_
      refine LR.nil ?_
      refine hK22 _ _ ?_
      refine hK21 _ _ ?_
      refine CW.region ?_
      refine LR.v (Y.addi rfl rfl rfl (by omega)) (Wd.u rfl) rfl rfl ?_
      refine LR.v (Y.move rfl rfl) (Wd.u rfl) rfl rfl ?_
      refine LR.nil ?_
      obtain ⟨s33, rfl⟩ : ∃ s : SV, v33 = s.v := ⟨toSV v33, ow6.sv.symm⟩
      refine QN.sub (hN18 (q + 1, s33, k33) _ ?_ ?_) ⟨rfl, rfl, (iv (by omega)), (iv (by omega)), trivial⟩
      · exact ⟨(by omega), by rw [catP_take hql]; exact ow6, nx11, hlm2⟩
      · first | omega | (simp only; omega) | (simp; omega)
    ·
      refine CW.exit (hE20 (.exit 2) nofun _ _ (hE18 (.exit 2) nofun _ _ (hX17 _ _ ?_)))
      refine hK15 _ _ ?_
      refine CW.seq (fun K24 hK24 hE24 => ?_)
      refine CW.region ?_
      refine LR.v (Y.move rfl rfl) (Wd.u rfl) rfl rfl ?_
      refine LR.v (Y.assign rfl rfl) (Wd.u rfl) rfl rfl ?_
      refine LR.nil ?_
      refine hK24 _ _ ?_
      refine CW.ret (hret .ret (.inr rfl) _ _ _ (res1 rfl rfl) ?_)
      obtain rfl : q = l.length := by omega
      rw [List.take_length] at ow6
      exact ⟨s6, k6, rfl, ow6, nx6, hm0⟩


abbrev Wx := Wr × SV
/-- a write's cells -/
abbrev fW (x : Wx) : List Value := [.bool x.1.b, x.2.v]
theorem fW_len (x : Wx) : (fW x).length = 2 := rfl
theorem fW_one (x : Wx) : ∀ u ∈ fW x, u.oneCell' = true := by intro u hu; simp only [List.mem_cons, List.not_mem_nil, or_false] at hu; rcases hu with rfl | rfl <;> rfl
abbrev wV (x : Wx) : Value := .agg (fW x).toArray
theorem on_le (w : Wr) (b : List UInt8) (n : Nat) : (w.on b n).length ≤ b.length + n := by
  unfold Wr.on; rw [List.length_append, List.length_take]; split <;> simp <;> omega

theorem on_ct (x : Wx) (sb : SV) (b : List UInt8) (n : Nat) (w0 : World) (H0 : Heap)
    (hd : RdT H0 fB 1 x.2.v x.1.d) (hb : RdT H0 fB 1 sb.v b) (hn : n ≤ x.1.d.length) (hbl : b.length + n ≤ 1099511627776) :
    Ct Tryz.prog w0 84 #[wV x, sb.v, .int .i64 (n : Int)] H0 (fun r H2 => ∃ s : SV, ∃ k : Nat, r = s.v ∧ (Ow k 5 H2 fB 1 s.v (x.1.on b n)) ∧ (Nx 0 H0.size k) ∧ Nw H0 H2) := by
  refine Ct.enter (args := [wV x, sb.v, .int .i64 (n : Int)]) Tryz.func84 rfl rfl rfl ?_
  intro Q0 hret
  have hm0 : Nw H0 H0 := Mo.refl _ _
  replace hd := hd.bnd
  have bf_hd := hd.bf
  replace hb := hb.bnd
  have bf_hb := hb.bf
  refine CW.seq (fun K1 hK1 hE1 => ?_)
  refine CW.region ?_
  refine LR.z (Z.boxv rfl rfl) (Wd.u rfl) rfl rfl (fun v3 H3 r3 => ?_)
  obtain ⟨rfl, vx, hs3, ob3, hH3⟩ := r3
  have hzs3 : H3.size = H0.size + 1 := by rw [hH3]; simp
  have df1 := (DF.new (bf_hd.mono hm0.size) : DF _ (H0.size + 1))
  have df2 := (DF.new (bf_hb.mono hm0.size) : DF _ (H0.size + 1))
  have nx3 : Nx 0 H0.size (H0.size + 1) := Nx.new hm0.size
  replace hd := hd.nw hs3
  replace hb := hb.nw hs3
  replace hm0 := hm0.tr hs3
  have hz1 := hs3.size
  replace vx : Var 149 H3 H0.size (fW x) := vx
  refine LR.v (Y.assign rfl rfl) (Wd.u rfl) rfl rfl ?_
  refine LR.nil ?_
  refine hK1 _ _ ?_
  refine CW.cut (fun (s_ : (SV) × (List UInt8)) => match s_ with | (s1, b1) => [(1, s1.v), (2, .int .i64 (n : Int)), (3, .pointer (some ⟨H0.size, 0, none⟩))])
    (fun (s_ : (SV) × (List UInt8)) (H : Heap) => match s_ with | (s1, b1) => (RdT H fB 1 s1.v b1) ∧ (b1 = if x.1.b = true then b else []) ∧ Nw H3 H) (fun K2 hK2 hE2 => ?_) ?_
  ·
    have hcm2 : Nw H3 H3 := Mo.refl _ _
    refine CW.seq (fun K3 hK3 hE3 => ?_)
    refine CW.region ?_
    refine LR.v (Y.fieldAddr vx.pt rfl Tryz.runUnderlying149 rfl rfl Tryz.sizeOf4 (by decide) rfl) (Wd.u rfl) rfl rfl ?_
    refine LR.v (Y.load1 vx.pt rfl Tryz.isAgg4 rfl) (Wd.u rfl) rfl rfl ?_
    refine LR.v (Y.not rfl rfl) (Wd.u rfl) rfl rfl ?_
    refine LR.nil ?_
    refine hK3 _ _ ?_
    refine CW.cond rfl (fun c9 => ?_) (fun c9 => ?_)
    ·
      refine CW.region ?_
      refine LR.v (Y.assign rfl rfl) (Wd.u rfl) rfl rfl ?_
      refine LR.nil ?_
      refine QN.sub (hK2 (⟨none, 0, 0⟩, []) _ ?_) ⟨rfl, (iv (by omega)), rfl, trivial⟩
      exact ⟨Rd.nil _ _ _ _, by rw [if_neg (by simpa using c9)], hcm2⟩
    ·
      refine CW.skip ?_
      refine QN.sub (hK2 (sb, b) _ ?_) ⟨rfl, (iv (by omega)), rfl, trivial⟩
      exact ⟨hb.any, by rw [if_pos (by simpa using c9)], hcm2⟩
  ·
    rintro ⟨s1, b1⟩ Hcutc9 hIcutc9
    obtain ⟨hb1, hb1e, hlmcutc9⟩ := hIcutc9
    replace hd := hd.nw hlmcutc9
    replace hb := hb.nw hlmcutc9
    replace vx := vx.nw hlmcutc9
    replace hm0 := hm0.tr hlmcutc9
    have hz2 := hlmcutc9.size
    have hb1l : b1.length ≤ b.length := by rw [hb1e]; split <;> simp
    refine CW.seq (fun K4 hK4 hE4 => ?_)
    refine CW.region ?_
    refine LR.v (Y.move rfl rfl) (Wd.u rfl) rfl rfl ?_
    refine LR.v (Y.fieldAddr vx.pt rfl Tryz.runUnderlying149 rfl rfl Tryz.sizeOf34 (by decide) rfl) (Wd.u rfl) rfl rfl ?_
    refine LR.v (Y.load1 (vx.pt.drop 1) rfl Tryz.isAgg34 rfl) (Wd.u rfl) rfl rfl ?_
    refine LR.v (Y.move rfl rfl) (Wd.u rfl) rfl rfl ?_
    refine LR.e (g := fun v => v) (Y.slice hd (0) (n) rfl Tryz.runUnderlying34 Tryz.sizeOf5 rfl (.inl ⟨rfl, rfl⟩) (.inr ⟨_, _, _, rfl, rfl, by first | rfl | omega⟩) (by omega) (by omega)) (Wd.u rfl) rfl rfl (fun v14 rd14 => ?_)
    have bf_rd14 := bf_hd
    obtain ⟨s14, rfl⟩ : ∃ s : SV, v14 = s.v := ⟨toSV v14, rd14.sv.symm⟩
    refine LR.z (Z.litw _ ([(s1, b1), (s14, (x.1.d.take n).drop 0)]) rfl inf22 rfl rfl rfl (by decide) (by decide) fP_len fP_one (rfl)) (Wd.u rfl) rfl rfl (fun v15 H15 r15 => ?_)
    obtain ⟨ow15, hs15, ob15, hH15⟩ := r15
    have hzs15 : H15.size = Hcutc9.size + 1 := by rw [hH15]; simp
    have df4 := (DF.new (bf_hd.mono hm0.size) : DF _ (Hcutc9.size + 1))
    have df5 := (DF.new (bf_hb.mono hm0.size) : DF _ (Hcutc9.size + 1))
    have dj6 : Dj (H0.size + 1) (Hcutc9.size + 1) := Dj.new vx.lt
    have df7 := (DF.new (bf_rd14.mono hm0.size) : DF _ (Hcutc9.size + 1))
    have nx8 : Nx 0 H0.size (Hcutc9.size + 1) := Nx.new hm0.size
    replace hd := hd.nw hs15
    replace hb := hb.nw hs15
    replace vx := vx.nw hs15
    replace rd14 := rd14.nw hs15
    replace hm0 := hm0.tr hs15
    have hz3 := hs15.size
    -- call slices.Concat[[]byte,byte]
    refine LR.call rfl Tryz.call75 rfl (Wd.u rfl) rfl rfl (concat_ct v15 [(s1, b1), (s14, (x.1.d.take n).drop 0)] w0 _ ow15.rd.any (fun x hx => by simp only [List.mem_cons, List.not_mem_nil, or_false] at hx; rcases hx with rfl | rfl; exact hb1.nw hs15; exact rd14.any) (by simp [catP]; omega)) (fun v16 H16 r16 => ?_)
    obtain ⟨s16, k16, rfl, ow16, hk16, hs16⟩ := r16
    have df9 := DF.app (DF.z) (bf_hd.mono hm0.size) hk16
    have df10 := DF.app (DF.z) (bf_hb.mono hm0.size) hk16
    have dj11 : Dj (H0.size + 1) k16 := Dj.app (Dj.z) vx.lt hk16
    have df12 := DF.app (DF.z) (bf_rd14.mono hm0.size) hk16
    have dj13 : Dj (Hcutc9.size + 1) k16 := Dj.app (Dj.z) ow15.le hk16
    have nx14 : Nx 0 H0.size k16 := Nx.tr (Nx.refl 0 _) hk16 hm0.size
    replace hd := hd.nw hs16
    replace hb := hb.nw hs16
    replace vx := vx.nw hs16
    replace rd14 := rd14.nw hs16
    replace ow15 := ow15.nw hs16
    replace hm0 := hm0.tr hs16
    have hz4 := hs16.size
    have hle_ow16 := ow16.le
    refine LR.v (Y.assign rfl rfl) (Wd.u rfl) rfl rfl ?_
    refine LR.nil ?_
    refine hK4 _ _ ?_
    refine CW.ret (hret .ret (.inr rfl) _ _ _ (res1 rfl rfl) ?_)
    exact ⟨s16, k16, rfl, by have e : catP [(s1, b1), (s14, (x.1.d.take n).drop 0)] = x.1.on b n := (by unfold Wr.on; rw [← hb1e]; simp [catP]); rw [← e]; exact ow16, nx14, hm0⟩

theorem ways_ct (x : Wx) (w0 : World) (H0 : Heap)
    (hd : RdT H0 fB 1 x.2.v x.1.d) (hdl : x.1.d.length ≤ 1099511627776) :
    Ct Tryz.prog w0 82 #[wV x] H0 (fun r H2 => r = .int .i64 (x.1.ways : Int) ∧ Nw H0 H2) := by
  refine Ct.enter (args := [wV x]) Tryz.func82 rfl rfl rfl ?_
  intro Q0 hret
  have hm0 : Nw H0 H0 := Mo.refl _ _
  replace hd := hd.bnd
  have bf_hd := hd.bf
  refine CW.seq (fun K1 hK1 hE1 => ?_)
  refine CW.region ?_
  refine LR.z (Z.boxv rfl rfl) (Wd.u rfl) rfl rfl (fun v1 H1 r1 => ?_)
  obtain ⟨rfl, vx, hs1, ob1, hH1⟩ := r1
  have hzs1 : H1.size = H0.size + 1 := by rw [hH1]; simp
  have df1 := (DF.new (bf_hd.mono hm0.size) : DF _ (H0.size + 1))
  have nx2 : Nx 0 H0.size (H0.size + 1) := Nx.new hm0.size
  replace hd := hd.nw hs1
  replace hm0 := hm0.tr hs1
  have hz1 := hs1.size
  replace vx : Var 149 H1 H0.size (fW x) := vx
  refine LR.v (Y.assign rfl rfl) (Wd.u rfl) rfl rfl ?_
  refine LR.nil ?_
  refine hK1 _ _ ?_
  refine CW.seq (fun K2 hK2 hE2 => ?_)
  refine CW.region ?_
  refine LR.v (Y.fieldAddr vx.pt rfl Tryz.runUnderlying149 rfl rfl Tryz.sizeOf34 (by decide) rfl) (Wd.u rfl) rfl rfl ?_
  refine LR.v (Y.load1 (vx.pt.drop 1) rfl Tryz.isAgg34 rfl) (Wd.u rfl) rfl rfl ?_
  refine LR.v (Y.len hd rfl Tryz.runUnderlying34 rfl) (Wd.u rfl) rfl rfl ?_
  refine LR.v (Y.cast (v2 := .int .i64 ((2 * x.1.d.length : Nat) : Int)) (Y.muli rfl rfl rfl (by omega)) (ivv (by omega))) (Wd.u rfl) rfl rfl ?_
  refine LR.v (Y.cast (v2 := .int .i64 (x.1.ways : Int)) (Y.maxi rfl rfl rfl) (ivv (by unfold Wr.ways; omega))) (Wd.u rfl) rfl rfl ?_
  refine LR.v (Y.assign rfl rfl) (Wd.u rfl) rfl rfl ?_
  refine LR.nil ?_
  refine hK2 _ _ ?_
  refine CW.ret (hret .ret (.inr rfl) _ _ _ (res1 rfl rfl) ?_)
  exact ⟨rfl, hm0⟩

theorem part_ct (x : Wx) (sb : SV) (b : List UInt8) (way : Nat) (w0 : World) (H0 : Heap)
    (hd : RdT H0 fB 1 x.2.v x.1.d) (hb : RdT H0 fB 1 sb.v b) (hw : way < x.1.ways) (hbl : b.length + x.1.d.length ≤ 1099511627776) :
    Ct Tryz.prog w0 83 #[wV x, sb.v, .int .i64 (way : Int)] H0 (fun r H2 => ∃ s : SV, ∃ k : Nat, r = s.v ∧ (Ow k 5 H2 fB 1 s.v (x.1.part b way)) ∧ (Nx 0 H0.size k) ∧ Nw H0 H2) := by
  refine Ct.enter (args := [wV x, sb.v, .int .i64 (way : Int)]) Tryz.func83 rfl rfl rfl ?_
  intro Q0 hret
  have hm0 : Nw H0 H0 := Mo.refl _ _
  replace hd := hd.bnd
  have bf_hd := hd.bf
  replace hb := hb.bnd
  have bf_hb := hb.bf
  have hw2 : way < 1 ∨ way < 2 * x.1.d.length := by unfold Wr.ways at hw; omega
  refine CW.seq (fun K1 hK1 hE1 => ?_)
  refine CW.region ?_
  refine LR.z (Z.boxv rfl rfl) (Wd.u rfl) rfl rfl (fun v3 H3 r3 => ?_)
  obtain ⟨rfl, vx, hs3, ob3, hH3⟩ := r3
  have hzs3 : H3.size = H0.size + 1 := by rw [hH3]; simp
  have df1 := (DF.new (bf_hd.mono hm0.size) : DF _ (H0.size + 1))
  have df2 := (DF.new (bf_hb.mono hm0.size) : DF _ (H0.size + 1))
  have nx3 : Nx 0 H0.size (H0.size + 1) := Nx.new hm0.size
  replace hd := hd.nw hs3
  replace hb := hb.nw hs3
  replace hm0 := hm0.tr hs3
  have hz1 := hs3.size
  replace vx : Var 149 H3 H0.size (fW x) := vx
  refine LR.v (Y.assign rfl rfl) (Wd.u rfl) rfl rfl ?_
  refine LR.nil ?_
  refine hK1 _ _ ?_
  refine CW.seq (fun K2 hK2 hE2 => ?_)
  refine CW.region ?_
  refine LR.v (Y.fieldAddr vx.pt rfl Tryz.runUnderlying149 rfl rfl Tryz.sizeOf34 (by decide) rfl) (Wd.u rfl) rfl rfl ?_
  refine LR.v (Y.load1 (vx.pt.drop 1) rfl Tryz.isAgg34 rfl) (Wd.u rfl) rfl rfl ?_
  refine LR.v (Y.len hd rfl Tryz.runUnderlying34 rfl) (Wd.u rfl) rfl rfl ?_
  refine LR.v (Y.assign rfl rfl) (Wd.u rfl) rfl rfl ?_
  refine LR.nil ?_
  refine hK2 _ _ ?_
  refine CW.seq (fun K3 hK3 hE3 => ?_)
  refine CW.seq (fun K4 hK4 hE4 => ?_)
  refine CW.region ?_
  refine LR.v (Y.move rfl rfl) (Wd.u rfl) rfl rfl ?_
  refine LR.v (Y.move rfl rfl) (Wd.u rfl) rfl rfl ?_
  refine LR.v (Y.lss rfl rfl rfl) (Wd.u rfl) rfl rfl ?_
  refine LR.v (Y.move rfl rfl) (Wd.u rfl) rfl rfl ?_
  refine LR.splitp (d := 14) rfl (fun g14 => ?_) (fun g14 => ?_)
  ·
    refine LR.gs rfl rfl rfl rfl rfl rfl ?_
    refine LR.gs rfl rfl rfl rfl rfl rfl ?_
    refine LR.v (Y.pick_t rfl rfl rfl) (Wd.u rfl) rfl rfl ?_
    refine LR.nil ?_
    refine hK4 _ _ ?_
    refine CW.cond_t rfl ?_
    refine CW.seq (fun K5 hK5 hE5 => ?_)
    refine CW.region ?_
    refine LR.v (Y.loadN vx.pt rfl Tryz.isAgg149 Tryz.sizeOf149 (rfl) rfl) (Wd.u rfl) rfl rfl ?_
    refine LR.v (Y.move rfl rfl) (Wd.u rfl) rfl rfl ?_
    refine LR.v (Y.move rfl rfl) (Wd.u rfl) rfl rfl ?_
    refine LR.v (Y.addi rfl rfl rfl (by omega)) (Wd.u rfl) rfl rfl ?_
    refine LR.v (Y.move rfl rfl) (Wd.u rfl) rfl rfl ?_
    refine LR.v (Y.cast (v2 := .int .i64 ((min (way + 1) x.1.d.length : Nat) : Int)) (Y.mini rfl rfl rfl) (ivv (by omega))) (Wd.u rfl) rfl rfl ?_
    -- call (selvage/simfs.write).on
    refine LR.call rfl Tryz.call84 rfl (Wd.u rfl) rfl rfl (on_ct x sb b (min (way + 1) x.1.d.length) w0 _ hd.any hb.any (by omega) (by omega)) (fun v24 H24 r24 => ?_)
    obtain ⟨s24, k24, rfl, ow24, hk24, hs24⟩ := r24
    have df4 := DF.app (DF.z) (bf_hd.mono hm0.size) hk24
    have df5 := DF.app (DF.z) (bf_hb.mono hm0.size) hk24
    have dj6 : Dj (H0.size + 1) k24 := Dj.app (Dj.z) vx.lt hk24
    have nx7 : Nx 0 H0.size k24 := Nx.tr (Nx.refl 0 _) hk24 hm0.size
    replace hd := hd.nw hs24
    replace hb := hb.nw hs24
    replace vx := vx.nw hs24
    replace hm0 := hm0.tr hs24
    have hz2 := hs24.size
    have hle_ow24 := ow24.le
    refine LR.v (Y.assign rfl rfl) (Wd.u rfl) rfl rfl ?_
    refine LR.nil ?_
    refine hK5 _ _ ?_
    refine CW.ret (hE3 .ret nofun _ _ (hret .ret (.inr rfl) _ _ _ (res1 rfl rfl) ?_))
    exact ⟨s24, k24, rfl, by have h9 : x.1.part b way = x.1.on b (min (way + 1) x.1.d.length) := (by unfold Wr.part; rw [if_pos (by first | exact .inl (by omega) | exact .inr (by omega))]); rw [h9]; exact ow24, nx7, hm0⟩
  ·
    refine LR.v (Y.move rfl rfl) (Wd.g rfl rfl rfl) rfl rfl ?_
    refine LR.v (Y.eql rfl rfl rfl) (Wd.g rfl rfl rfl) rfl rfl ?_
    refine LR.v (Y.pick_f rfl rfl rfl) (Wd.u rfl) rfl rfl ?_
    refine LR.nil ?_
    refine hK4 _ _ ?_
    refine CW.condp rfl (fun c17 => ?_) (fun c17 => ?_)
    ·
      refine CW.seq (fun K6 hK6 hE6 => ?_)
      refine CW.region ?_
      refine LR.v (Y.loadN vx.pt rfl Tryz.isAgg149 Tryz.sizeOf149 (rfl) rfl) (Wd.u rfl) rfl rfl ?_
      refine LR.v (Y.move rfl rfl) (Wd.u rfl) rfl rfl ?_
      refine LR.v (Y.move rfl rfl) (Wd.u rfl) rfl rfl ?_
      refine LR.v (Y.addi rfl rfl rfl (by omega)) (Wd.u rfl) rfl rfl ?_
      refine LR.v (Y.move rfl rfl) (Wd.u rfl) rfl rfl ?_
      refine LR.v (Y.cast (v2 := .int .i64 ((min (way + 1) x.1.d.length : Nat) : Int)) (Y.mini rfl rfl rfl) (ivv (by omega))) (Wd.u rfl) rfl rfl ?_
      -- call (selvage/simfs.write).on
      refine LR.call rfl Tryz.call84 rfl (Wd.u rfl) rfl rfl (on_ct x sb b (min (way + 1) x.1.d.length) w0 _ hd.any hb.any (by omega) (by omega)) (fun v24 H24 r24 => ?_)
      obtain ⟨s24, k24, rfl, ow24, hk24, hs24⟩ := r24
      have df8 := DF.app (DF.z) (bf_hd.mono hm0.size) hk24
      have df9 := DF.app (DF.z) (bf_hb.mono hm0.size) hk24
      have dj10 : Dj (H0.size + 1) k24 := Dj.app (Dj.z) vx.lt hk24
      have nx11 : Nx 0 H0.size k24 := Nx.tr (Nx.refl 0 _) hk24 hm0.size
      replace hd := hd.nw hs24
      replace hb := hb.nw hs24
      replace vx := vx.nw hs24
      replace hm0 := hm0.tr hs24
      have hz3 := hs24.size
      have hle_ow24 := ow24.le
      refine LR.v (Y.assign rfl rfl) (Wd.u rfl) rfl rfl ?_
      refine LR.nil ?_
      refine hK6 _ _ ?_
      refine CW.ret (hE3 .ret nofun _ _ (hret .ret (.inr rfl) _ _ _ (res1 rfl rfl) ?_))
      exact ⟨s24, k24, rfl, by have h9 : x.1.part b way = x.1.on b (min (way + 1) x.1.d.length) := (by unfold Wr.part; rw [if_pos (by first | exact .inl (by omega) | exact .inr (by omega))]); rw [h9]; exact ow24, nx11, hm0⟩
    ·
      refine CW.skip ?_
      refine hK3 _ _ ?_
      refine CW.seq (fun K7 hK7 hE7 => ?_)
      refine CW.region ?_
      refine LR.v (Y.move rfl rfl) (Wd.u rfl) rfl rfl ?_
      refine LR.v (Y.move rfl rfl) (Wd.u rfl) rfl rfl ?_
      refine LR.v (Y.cast (v2 := .int .i64 ((way - x.1.d.length : Nat) : Int)) (Y.subi rfl rfl rfl (by omega)) (ivv (by omega))) (Wd.u rfl) rfl rfl ?_
      refine LR.v (Y.assign rfl rfl) (Wd.u rfl) rfl rfl ?_
      refine LR.nil ?_
      refine hK7 _ _ ?_
      refine CW.seq (fun K8 hK8 hE8 => ?_)
      refine CW.region ?_
      refine LR.v (Y.loadN vx.pt rfl Tryz.isAgg149 Tryz.sizeOf149 (rfl) rfl) (Wd.u rfl) rfl rfl ?_
      refine LR.v (Y.move rfl rfl) (Wd.u rfl) rfl rfl ?_
      refine LR.v (Y.move rfl rfl) (Wd.u rfl) rfl rfl ?_
      -- call (selvage/simfs.write).on
      refine LR.call rfl Tryz.call84 rfl (Wd.u rfl) rfl rfl (on_ct x sb b (way - x.1.d.length) w0 _ hd.any hb.any (by omega) (by omega)) (fun v31 H31 r31 => ?_)
      obtain ⟨s31, k31, rfl, ow31, hk31, hs31⟩ := r31
      have df12 := DF.app (DF.z) (bf_hd.mono hm0.size) hk31
      have df13 := DF.app (DF.z) (bf_hb.mono hm0.size) hk31
      have dj14 : Dj (H0.size + 1) k31 := Dj.app (Dj.z) vx.lt hk31
      have nx15 : Nx 0 H0.size k31 := Nx.tr (Nx.refl 0 _) hk31 hm0.size
      replace hd := hd.nw hs31
      replace hb := hb.nw hs31
      replace vx := vx.nw hs31
      replace hm0 := hm0.tr hs31
      have hz4 := hs31.size
      have hle_ow31 := ow31.le
      have hol := on_le x.1 b (way - x.1.d.length)
      refine LR.v (Y.move rfl rfl) (Wd.u rfl) rfl rfl ?_
      refine LR.v (Y.move rfl rfl) (Wd.u rfl) rfl rfl ?_
      refine LR.v (Y.cast (v2 := .int .i64 ((x.1.d.length - (way - x.1.d.length) : Nat) : Int)) (Y.subi rfl rfl rfl (by omega)) (ivv (by omega))) (Wd.u rfl) rfl rfl ?_
      refine LR.z (Z.apz (m := x.1.d.length - (way - x.1.d.length)) ow31 (0 : UInt8) rfl inf34 Tryz.underlying3 Tryz.zeroValue5 rfl (by decide) rfl rfl (by first | omega | (simp; omega)) (by first | omega | (simp; omega))) (Wd.u rfl) rfl rfl (fun v35 H35 r35 => ?_)
      obtain ⟨k35, ow31, hk35, hs35⟩ := r35
      replace hk35 : Nx k31 H31.size k35 := hk35
      replace hs35 := hs35.md
      have df16 := DF.app (df12) (bf_hd.mono hm0.size) hk35
      have df17 := DF.app (df13) (bf_hb.mono hm0.size) hk35
      have dj18 : Dj (H0.size + 1) k35 := Dj.app (dj14) vx.lt hk35
      have nx19 : Nx 0 H0.size k35 := Nx.tr (nx15) hk35 hm0.size
      replace hd := hd.upL hs35 (DFL.cons df12 DFL.nil)
      replace hb := hb.upL hs35 (DFL.cons df13 DFL.nil)
      replace vx := vx.upL hs35 (DL.cons dj14 DL.nil)
      replace hm0 := (Mo.trL (ks := []) (hm0.mdn []) hs35 (MIL.cons (MI.app MI.z (nx15) (Nat.le_refl _)) MIL.nil)).nil
      have hz5 := hs35.size
      have hle_ow31 := ow31.le
      refine LR.v (Y.assign rfl rfl) (Wd.u rfl) rfl rfl ?_
      refine LR.nil ?_
      refine hK8 _ _ ?_
      refine CW.ret (hret .ret (.inr rfl) _ _ _ (res1 rfl rfl) ?_)
      obtain ⟨s35, rfl⟩ : ∃ s : SV, v35 = s.v := ⟨toSV v35, ow31.sv.symm⟩
      exact ⟨s35, k35, rfl, by have h9 : x.1.part b way = x.1.on b (way - x.1.d.length) ++ List.replicate (x.1.d.length - (way - x.1.d.length)) 0 := (by unfold Wr.part; rw [if_neg (by omega)]); rw [h9]; exact ow31, nx19, hm0⟩

end Go.Proofs.YtdliddjkacbggaaGreatDoor.SimB
/-
  A journal's bytes: the contracts of the functions that write and read them.
-/
namespace Go.Proofs.YtdliddjkacbggaaGreatDoor.WalB
open Go.Proofs.YtdliddjkacbggaaGreatDoor.E Go.RowKit Go.Proofs.YtdliddjkacbggaaGreatDoor.SumB Go.Proofs.YtdliddjkacbggaaGreatDoor.SumC Go.Proofs.YtdliddjkacbggaaGreatDoor.SumD Go.Proofs.YtdliddjkacbggaaGreatDoor.SumF Go.Proofs.YtdliddjkacbggaaGreatDoor.SumG Go.Proofs.YtdliddjkacbggaaGreatDoor.DelA Go.Proofs.YtdliddjkacbggaaGreatDoor.SimA Go.Proofs.YtdliddjkacbggaaGreatDoor.SimB Go.Proofs.YtdliddjkacbggaaGreatDoor.WalA
set_option maxRecDepth 20000
set_option linter.unusedVariables false
set_option linter.unusedSimpArgs false
set_option linter.unusedSectionVars false
set_option maxRecDepth 100000 in
theorem inf22 : Inf Tryz.prog 22 34 1 24 := ⟨Tryz.underlying22, _, _, rfl, rfl, rfl, rfl, rfl⟩
set_option maxRecDepth 100000 in
theorem inf34 : Inf Tryz.prog 34 5 1 1 := ⟨Tryz.underlying34, _, _, rfl, rfl, rfl, rfl, rfl⟩

abbrev recs (l : List (SV × Rec)) : List Rec := l.map (·.2)
theorem encN_take {l : List (SV × Rec)} {i : Nat} (h : i < l.length) : encN 0 (recs (l.take (i + 1))) = encN 0 (recs (l.take i)) ++ recW i l[i].2 := by
  have e : (recs (l.take i)).length = i := by simp; omega
  rw [List.take_succ_eq_append_getElem h]
  unfold recs
  rw [List.map_append, encN_app]
  unfold recs at e
  rw [e]; simp [encN]
theorem encN_take_le (l : List (SV × Rec)) (i : Nat) : (encN 0 (recs (l.take i))).length ≤ (encN 0 (recs l)).length := by
  have h : l = l.take i ++ l.drop i := (List.take_append_drop i l).symm
  have h2 : recs l = recs (l.take i) ++ recs (l.drop i) := by unfold recs; rw [← List.map_append, ← h]
  rw [h2, encN_app, List.length_append]; omega
theorem encN_take_le2 {l : List (SV × Rec)} {i : Nat} (h : i < l.length) : (encN 0 (recs (l.take i))).length + (13 + l[i].2.length) ≤ (encN 0 (recs l)).length := by
  have := encN_take_le l (i + 1)
  rw [encN_take h, List.length_append, recW_len] at this; exact this

theorem number_ct (k : Nat) (v : Value) (xs : List UInt8) (n : Nat) (x : UInt64) (w0 : World) (H0 : Heap)
    (how : Ow k 5 H0 fB 1 v xs) (hn : n ≤ 8) (hx : xs.length ≤ 1099511627776) :
    Ct Tryz.prog w0 76 #[v, .int .i64 n, .int .u64 x.toNat] H0 (fun r H2 => ∃ v2 : Value, ∃ k2 : Nat, r = v2 ∧ (Ow k2 5 H2 fB 1 v2 (xs ++ Num.numL n x)) ∧ (Nx k H0.size k2) ∧ Mo (Ms [k]) H0 H2) := by
  refine Ct.enter (args := [v, .int .i64 n, .int .u64 x.toNat]) Tryz.func76 rfl rfl rfl ?_
  intro Q0 hret
  have hm0 : Mo (Ms [k]) H0 H0 := Mo.refl _ _
  have nx_hm0_how := Nx.refl k H0.size
  have hle_how := how.le
  refine CW.seq (fun K1 hK1 hE1 => ?_)
  refine CW.region ?_
  refine LR.v (Y.assign rfl rfl) (Wd.u rfl) rfl rfl ?_
  refine LR.nil ?_
  refine hK1 _ _ ?_
  refine CW.seq (fun K2 hK2 hE2 => ?_)
  refine CW.seq (fun K3 hK3 hE3 => ?_)
  refine CW.region ?_
  refine LR.v (Y.move rfl rfl) (Wd.u rfl) rfl rfl ?_
  refine LR.v (Y.subi rfl rfl rfl (by omega)) (Wd.u rfl) rfl rfl ?_
  refine LR.v (Y.assign rfl rfl) (Wd.u rfl) rfl rfl ?_
  refine LR.nil ?_
  refine hK3 _ _ ?_
  refine CW.block (fun K4 hK4 hX4 hE4 => ?_)
  refine CW.loop (fun (s_ : (Nat) × (Value) × (Nat) × (List UInt8)) => match s_ with | (j, v', k', ys) => [(0, v'), (2, .int .u64 x.toNat), (7, .int .i64 ((j : Int) - 1))])
    (fun (s_ : (Nat) × (Value) × (Nat) × (List UInt8)) (H : Heap) => match s_ with | (j, v', k', ys) => (j ≤ n) ∧ (Ow k' 5 H fB 1 v' ys) ∧ (ys ++ Num.numL j x = xs ++ Num.numL n x) ∧ (Nx k H0.size (k')) ∧ Mo (Ms [k]) H0 H)
    (fun (s_ : (Nat) × (Value) × (Nat) × (List UInt8)) => match s_ with | (j, v', k', ys) => j) (n, v, k, xs) ⟨rfl, rfl, rfl, trivial⟩ ?_ ?_
  ·
    exact ⟨(by omega), how, rfl, Nx.refl _ _, Mo.refl _ _⟩
  rintro ⟨j, v', k', ys⟩ HL1 hI1 K5 hN5 hE5
  obtain ⟨hj, how, hys, nxl_how, hlm1⟩ := hI1
  have nx1 : Nx k H0.size (k') := Nx.tr (nx_hm0_how) nxl_how hm0.size
  replace hm0 := hm0.trL hlm1 (MIL.cons (MI.app (MI.root (by simp)) (nx_hm0_how) (Nat.le_refl _)) MIL.nil)
  have hz1 := hlm1.size
  have hle_how := how.le
  have nx2 := nxl_how
  have hyl : ys.length + j = xs.length + n := by have := congrArg List.length hys; simpa [Num.numL_len] using this
  refine CW.seq (fun K6 hK6 hE6 => ?_)
  refine CW.seq (fun K7 hK7 hE7 => ?_)
  refine CW.region ?_
  refine LR.v (Y.move rfl rfl) (Wd.u rfl) rfl rfl ?_
  refine LR.v (Y.geq rfl rfl rfl) (Wd.u rfl) rfl rfl ?_
  refine LR.nil ?_
  refine hK7 _ _ ?_
  refine CW.condp rfl (fun c11 => ?_) (fun c11 => ?_)
  ·
    obtain ⟨j, rfl⟩ : ∃ q, j = q + 1 := ⟨j - 1, by omega⟩
    refine CW.skip ?_
    refine hK6 _ _ ?_
    refine CW.seq (fun K8 hK8 hE8 => ?_)
    refine CW.block (fun K9 hK9 hX9 hE9 => ?_)
    refine CW.region ?_
    refine LR.v (Y.move rfl rfl) (Wd.u rfl) rfl rfl ?_
    refine LR.v (Y.move rfl rfl) (Wd.u rfl) rfl rfl ?_
    refine LR.v (Y.move rfl rfl) (Wd.u rfl) rfl rfl ?_
    refine LR.v (Y.muli rfl rfl rfl (by omega)) (Wd.u rfl) rfl rfl ?_
    refine LR.v (Y.shr_u64 (8 * j) rfl rfl rfl (by first | rfl | omega) (by omega)) (Wd.u rfl) rfl rfl ?_
    refine LR.v (Y.conv_u8 rfl Tryz.runUnderlying151 Tryz.runUnderlying5 rfl) (Wd.u rfl) rfl rfl ?_
    refine LR.z (Z.litw _ ([UInt8.ofNat (shrw_u64 x (8 * j)).toNat]) rfl inf34 rfl rfl rfl (by decide) (by decide) fB_len fB_one (rfl)) (Wd.u rfl) rfl rfl (fun v20 H20 r20 => ?_)
    obtain ⟨ow20, hs20, ob20, hH20⟩ := r20
    have hzs20 : H20.size = HL1.size + 1 := by rw [hH20]; simp
    have dj3 : Dj (k') (HL1.size + 1) := Dj.new how.le
    have nx4 : Nx 0 H0.size (HL1.size + 1) := Nx.new hm0.size
    have nx5 : Nx 0 H0.size (HL1.size + 1) := Nx.new hlm1.size
    replace how := how.nw hs20
    replace hm0 := hm0.trN hs20
    replace hlm1 := hlm1.trN hs20
    have hz2 := hs20.size
    refine LR.z (Z.apnd how ow20.rd rfl inf34 rfl rfl (by first | omega | (simp; omega)) (by first | omega | (simp; omega))) (Wd.u rfl) rfl rfl (fun v21 H21 r21 => ?_)
    obtain ⟨k21, ow21, hk21, hs21⟩ := r21
    replace hk21 : Nx (k') H20.size k21 := hk21
    replace hs21 := hs21.md
    have dj6 : Dj (HL1.size + 1) k21 := Dj.app (dj3.symm) ow20.le hk21
    have nx7 : Nx k H0.size k21 := Nx.tr (nx1) hk21 hm0.size
    have nx8 : Nx k H0.size k21 := Nx.tr (nx2) hk21 hlm1.size
    replace ow20 := ow20.upL hs21 (DL.cons dj3.symm DL.nil)
    replace hm0 := hm0.trL hs21 (MIL.cons (MI.app (MI.root (by simp)) (nx1) (Nat.le_refl _)) MIL.nil)
    replace hlm1 := hlm1.trL hs21 (MIL.cons (MI.app (MI.root (by simp)) (nx2) (Nat.le_refl _)) MIL.nil)
    have hz3 := hs21.size
    have hle_ow21 := ow21.le
    refine LR.v (Y.assign rfl rfl) (Wd.u rfl) rfl rfl ?_
    refine LR.nil ?_
    refine hK9 _ _ ?_
    refine hK8 _ _ ?_
    refine CW.region ?_
    refine LR.v (Y.move rfl rfl) (Wd.u rfl) rfl rfl ?_
    refine LR.v (Y.subi rfl rfl rfl (by omega)) (Wd.u rfl) rfl rfl ?_
    refine LR.v (Y.assign rfl rfl) (Wd.u rfl) rfl rfl ?_
    refine LR.nil ?_
    refine QN.sub (hN5 (j, v21, k21, ys ++ [UInt8.ofNat (shrw_u64 x (8 * j)).toNat]) _ ?_ ?_) ⟨rfl, (iv (by omega)), (iv (by omega)), trivial⟩
    · exact ⟨(by omega), ow21, by rw [← hys, List.append_assoc]; rfl, nx8, hlm1⟩
    · first | omega | (simp only; omega) | (simp; omega)
  ·
    obtain rfl : j = 0 := by omega
    rw [Num.numL, List.append_nil] at hys
    subst hys
    refine CW.exit (hE6 (.exit 0) nofun _ _ (hE5 (.exit 0) nofun _ _ (hX4 _ _ ?_)))
    refine hK2 _ _ ?_
    refine CW.seq (fun K10 hK10 hE10 => ?_)
    refine CW.region ?_
    refine LR.v (Y.move rfl rfl) (Wd.u rfl) rfl rfl ?_
    refine LR.v (Y.assign rfl rfl) (Wd.u rfl) rfl rfl ?_
    refine LR.nil ?_
    refine hK10 _ _ ?_
    refine CW.ret (hret .ret (.inr rfl) _ _ _ (res1 rfl rfl) ?_)
    exact ⟨v', k', rfl, how, nx1, hm0⟩


theorem spl2 {vs cs : List Value} (h : cs.length = vs.length) : splice cs 0 vs = vs := by simp [splice, h]

theorem check_ct (n : Nat) (s : SV) (rc : List UInt8) (w0 : World) (H0 : Heap)
    (hr : RdT H0 fB 1 s.v rc) (hrl : rc.length ≤ 1099511000000) :
    Ct Tryz.prog w0 72 #[.int .i64 (n : Int), s.v] H0 (fun r H2 => ∃ t : SV, r = t.v ∧ (Rd (fun b => H0.size ≤ b) H2 fB 1 t.v (chkW n rc)) ∧ Nw H0 H2) := by
  refine Ct.enter (args := [.int .i64 (n : Int), s.v]) Tryz.func72 rfl rfl rfl ?_
  intro Q0 hret
  have hm0 : Nw H0 H0 := Mo.refl _ _
  replace hr := hr.bnd
  have bf_hr := hr.bf
  refine CW.seq (fun K1 hK1 hE1 => ?_)
  refine CW.region ?_
  refine LR.v (Y.assign rfl rfl) (Wd.u rfl) rfl rfl ?_
  refine LR.nil ?_
  refine hK1 _ _ ?_
  refine CW.seq (fun K2 hK2 hE2 => ?_)
  refine CW.region ?_
  refine LR.v (Y.move rfl rfl) (Wd.u rfl) rfl rfl ?_
  refine LR.v (Y.cast (v2 := .int .u64 (UInt64.ofNat n).toNat) (Y.conv_u64 rfl Tryz.runUnderlying3 Tryz.runUnderlying151 rfl) (rfl)) (Wd.u rfl) rfl rfl ?_
  -- call selvage/wal.number
  refine LR.call rfl Tryz.call76 rfl (Wd.u rfl) rfl rfl (number_ct 0 _ [] 8 (UInt64.ofNat (n)) w0 _ (Ow.nil fB_len fB_one) (by omega) (by simp)) (fun v8 H8 r8 => ?_)
  obtain ⟨v28, k8, rfl, ow8, hk8, hs8⟩ := r8
  have df1 := DF.app (DF.z) (bf_hr.mono hm0.size) hk8
  have nx2 : Nx 0 H0.size k8 := Nx.tr (Nx.refl 0 _) hk8 hm0.size
  replace hr := hr.upL hs8 (DFL.cons DF.z DFL.nil)
  replace hm0 := (Mo.trL (ks := []) (hm0.mdn []) hs8 (MIL.cons MI.z MIL.nil)).nil
  have hz1 := hs8.size
  have hle_ow8 := ow8.le
  rw [List.nil_append] at ow8
  obtain ⟨s8, rfl⟩ : ∃ s : SV, v8 = s.v := ⟨toSV v8, ow8.sv.symm⟩
  refine LR.v (Y.move rfl rfl) (Wd.u rfl) rfl rfl ?_
  refine LR.z (Z.litw _ ([(s8, Num.numL 8 (UInt64.ofNat n)), (s, rc)]) rfl inf22 rfl rfl rfl (by decide) (by decide) fP_len fP_one (rfl)) (Wd.u rfl) rfl rfl (fun v10 H10 r10 => ?_)
  obtain ⟨ow10, hs10, ob10, hH10⟩ := r10
  have hzs10 : H10.size = H8.size + 1 := by rw [hH10]; simp
  have df3 := (DF.new (bf_hr.mono hm0.size) : DF _ (H8.size + 1))
  have dj4 : Dj k8 (H8.size + 1) := Dj.new ow8.le
  have nx5 : Nx 0 H0.size (H8.size + 1) := Nx.new hm0.size
  replace hr := hr.nw hs10
  replace ow8 := ow8.nw hs10
  replace hm0 := hm0.tr hs10
  have hz2 := hs10.size
  -- call selvage/sum.Of
  refine LR.call rfl Tryz.call111 rfl (Wd.u rfl) rfl rfl (pof_ct _ [(s8, Num.numL 8 (UInt64.ofNat n)), (s, rc)] w0 _ ow10.rd.any (fun x hx => by simp only [List.mem_cons, List.not_mem_nil, or_false] at hx; rcases hx with rfl | rfl; exact ow8.rd.any; exact hr.any) (by simp [cat, Num.numL_len]; omega)) (fun v11 H11 r11 => ?_)
  obtain ⟨rfl, hs11⟩ := r11
  replace hr := hr.nw hs11
  replace ow8 := ow8.nw hs11
  replace ow10 := ow10.nw hs11
  replace hm0 := hm0.tr hs11
  have hz3 := hs11.size
  rw [show cat [(s8, Num.numL 8 (UInt64.ofNat n)), (s, rc)] = (Num.numL 8 (UInt64.ofNat n) ++ rc) from by simp [cat]]
  refine LR.z (Z.allocv rfl Tryz.zeroValue165) (Wd.u rfl) rfl rfl (fun v5 H5 r5 => ?_)
  obtain ⟨rfl, va5, hs5, ob5, hH5⟩ := r5
  have hzs5 : H5.size = H11.size + 1 := by rw [hH5]; simp
  have df6 := (DF.new (bf_hr.mono hm0.size) : DF _ (H11.size + 1))
  have dj7 : Dj k8 (H11.size + 1) := Dj.new ow8.le
  have dj8 : Dj (H8.size + 1) (H11.size + 1) := Dj.new ow10.le
  have nx9 : Nx 0 H0.size (H11.size + 1) := Nx.new hm0.size
  replace hr := hr.nw hs5
  replace ow8 := ow8.nw hs5
  replace ow10 := ow10.nw hs5
  replace hm0 := hm0.tr hs5
  have hz4 := hs5.size
  replace va5 : Var 165 H5 H11.size ((List.replicate 32 (0 : UInt8)).map V8) := va5
  refine LR.s (S.var va5 ((sumOf (Num.numL 8 (UInt64.ofNat n) ++ rc)).map V8) ((sumOf (Num.numL 8 (UInt64.ofNat n) ++ rc)).map V8) rfl rfl rfl rfl (by intro u hu; obtain ⟨x, _, rfl⟩ := List.mem_map.1 hu; rfl) Tryz.sizeOf165 (by simp [sumOf_len]) (by simp [sumOf_len]) (spl2 (by simp [sumOf_len]))) (Wd.u rfl) rfl (fun H1_7 r1_7 => ?_)
  obtain ⟨va5, hs1_7⟩ := r1_7
  replace hs1_7 := hs1_7.md1
  replace hr := hr.upL hs1_7 (DFL.cons df6 DFL.nil)
  replace ow8 := ow8.upL hs1_7 (DL.cons dj7 DL.nil)
  replace ow10 := ow10.upL hs1_7 (DL.cons dj8 DL.nil)
  replace hm0 := (Mo.trL (ks := []) (hm0.mdn []) hs1_7 (MIL.cons (MI.app MI.z (nx9) (Nat.le_refl _)) MIL.nil)).nil
  have hz5 := hs1_7.size
  refine LR.nil ?_
  refine hK2 _ _ ?_
  refine CW.seq (fun K3 hK3 hE3 => ?_)
  refine CW.region ?_
  refine LR.e (g := fun v => v) (Y.sliceArrE (F := fun c => c = H11.size) (f := fB) (xs := sumOf (Num.numL 8 (UInt64.ofNat n) ++ rc)) va5.pt rfl va5.lt (sumOf_len _) (fun i x h => ⟨by simp [h], rfl⟩) (0) (8) rfl (fun w => .inl (Tryz.runUnderlying165 w)) Tryz.sizeOf5 rfl (.inl ⟨rfl, rfl⟩) (.inr ⟨_, _, _, rfl, rfl, by first | rfl | omega⟩) (by omega) (by omega) (by decide)) (Wd.u rfl) rfl rfl (fun v12 rd12 => ?_)
  rw [List.drop_zero] at rd12
  obtain ⟨s12, rfl⟩ : ∃ s : SV, v12 = s.v := ⟨toSV v12, rd12.sv.symm⟩
  refine LR.v (Y.assign rfl rfl) (Wd.u rfl) rfl rfl ?_
  refine LR.nil ?_
  refine hK3 _ _ ?_
  refine CW.ret (hret .ret (.inr rfl) _ _ _ (res1 rfl rfl) ?_)
  exact ⟨s12, rfl, (rd12.imp (fun b _ e => by omega)), hm0⟩

theorem wlay_ct (n : Nat) (s : SV) (rc : List UInt8) (w0 : World) (H0 : Heap)
    (hr : RdT H0 fB 1 s.v rc) (hrl : rc.length ≤ 4294967000) :
    Ct Tryz.prog w0 34 #[.int .i64 (n : Int), s.v] H0 (fun r H2 => ∃ t : SV, ∃ k : Nat, r = t.v ∧ (Ow k 5 H2 fB 1 t.v (layW n rc)) ∧ (Nx 0 H0.size k) ∧ Nw H0 H2) := by
  refine Ct.enter (args := [.int .i64 (n : Int), s.v]) Tryz.func34 rfl rfl rfl ?_
  intro Q0 hret
  have hm0 : Nw H0 H0 := Mo.refl _ _
  replace hr := hr.bnd
  have bf_hr := hr.bf
  refine CW.seq (fun K1 hK1 hE1 => ?_)
  refine CW.region ?_
  refine LR.v (Y.assign rfl rfl) (Wd.u rfl) rfl rfl ?_
  refine LR.nil ?_
  refine hK1 _ _ ?_
  refine CW.seq (fun K2 hK2 hE2 => ?_)
  refine CW.region ?_
  refine LR.v (Y.move rfl rfl) (Wd.u rfl) rfl rfl ?_
  refine LR.v (Y.len hr rfl Tryz.runUnderlying34 rfl) (Wd.u rfl) rfl rfl ?_
  refine LR.v (Y.cast (v2 := .int .u64 (UInt64.ofNat rc.length).toNat) (Y.conv_u64 rfl Tryz.runUnderlying3 Tryz.runUnderlying151 rfl) (rfl)) (Wd.u rfl) rfl rfl ?_
  -- call selvage/wal.number
  refine LR.call rfl Tryz.call76 rfl (Wd.u rfl) rfl rfl (number_ct 0 _ [] 4 (UInt64.ofNat (rc.length)) w0 _ (Ow.nil fB_len fB_one) (by omega) (by simp)) (fun v8 H8 r8 => ?_)
  obtain ⟨v28, k8, rfl, ow8, hk8, hs8⟩ := r8
  have df1 := DF.app (DF.z) (bf_hr.mono hm0.size) hk8
  have nx2 : Nx 0 H0.size k8 := Nx.tr (Nx.refl 0 _) hk8 hm0.size
  replace hr := hr.upL hs8 (DFL.cons DF.z DFL.nil)
  replace hm0 := (Mo.trL (ks := []) (hm0.mdn []) hs8 (MIL.cons MI.z MIL.nil)).nil
  have hz1 := hs8.size
  have hle_ow8 := ow8.le
  rw [List.nil_append] at ow8
  obtain ⟨s8, rfl⟩ : ∃ s : SV, v8 = s.v := ⟨toSV v8, ow8.sv.symm⟩
  rw [num_be32 _ (by omega)] at ow8
  refine LR.v (Y.move rfl rfl) (Wd.u rfl) rfl rfl ?_
  refine LR.v (Y.move rfl rfl) (Wd.u rfl) rfl rfl ?_
  -- call selvage/wal.check
  refine LR.call rfl Tryz.call72 rfl (Wd.u rfl) rfl rfl (check_ct n s rc w0 _ hr.any (by omega)) (fun v11 H11 r11 => ?_)
  obtain ⟨t11, rfl, hw11, hs11⟩ := r11
  replace hr := hr.nw hs11
  replace ow8 := ow8.nw hs11
  replace hm0 := hm0.tr hs11
  have hz2 := hs11.size
  replace hw11 := hw11.bnd
  have bf_hw11 := hw11.bf
  have df3 : DF (fun b => H8.size ≤ b ∧ b < H11.size) k8 := DF.above (fun b h => h.1) (by first | exact hle_ow8 | exact hlt_ow8 | omega)
  refine LR.v (Y.move rfl rfl) (Wd.u rfl) rfl rfl ?_
  refine LR.z (Z.litw _ ([(s8, be32 rc.length), (t11, chkW n rc), (s, rc)]) rfl inf22 rfl rfl rfl (by decide) (by decide) fP_len fP_one (rfl)) (Wd.u rfl) rfl rfl (fun v13 H13 r13 => ?_)
  obtain ⟨ow13, hs13, ob13, hH13⟩ := r13
  have hzs13 : H13.size = H11.size + 1 := by rw [hH13]; simp
  have df4 := (DF.new (bf_hr.mono hm0.size) : DF _ (H11.size + 1))
  have dj5 : Dj k8 (H11.size + 1) := Dj.new ow8.le
  have df6 := (DF.new (bf_hw11.mono (by omega)) : DF _ (H11.size + 1))
  have nx7 : Nx 0 H0.size (H11.size + 1) := Nx.new hm0.size
  replace hr := hr.nw hs13
  replace ow8 := ow8.nw hs13
  replace hw11 := hw11.nw hs13
  replace hm0 := hm0.tr hs13
  have hz3 := hs13.size
  -- call slices.Concat[[]byte,byte]
  refine LR.call rfl Tryz.call75 rfl (Wd.u rfl) rfl rfl (concat_ct v13 [(s8, be32 rc.length), (t11, chkW n rc), (s, rc)] w0 _ ow13.rd.any (fun x hx => by simp only [List.mem_cons, List.not_mem_nil, or_false] at hx; rcases hx with rfl | rfl | rfl; exact ow8.rd.any; exact hw11.any; exact hr.any) (by simp [catP, be32_len, chkW_len]; omega)) (fun v14 H14 r14 => ?_)
  obtain ⟨s14, k14, rfl, ow14, hk14, hs14⟩ := r14
  have df8 := DF.app (DF.z) (bf_hr.mono hm0.size) hk14
  have dj9 : Dj k8 k14 := Dj.app (Dj.z) ow8.le hk14
  have df10 := DF.app (DF.z) (bf_hw11.mono (by omega)) hk14
  have dj11 : Dj (H11.size + 1) k14 := Dj.app (Dj.z) ow13.le hk14
  have nx12 : Nx 0 H0.size k14 := Nx.tr (Nx.refl 0 _) hk14 hm0.size
  replace hr := hr.nw hs14
  replace ow8 := ow8.nw hs14
  replace hw11 := hw11.nw hs14
  replace ow13 := ow13.nw hs14
  replace hm0 := hm0.tr hs14
  have hz4 := hs14.size
  have hle_ow14 := ow14.le
  refine LR.v (Y.assign rfl rfl) (Wd.u rfl) rfl rfl ?_
  refine LR.nil ?_
  refine hK2 _ _ ?_
  refine CW.ret (hret .ret (.inr rfl) _ _ _ (res1 rfl rfl) ?_)
  exact ⟨s14, k14, rfl, by have e : catP [(s8, be32 rc.length), (t11, chkW n rc), (s, rc)] = layW n rc := (by simp [catP, layW]); rw [← e]; exact ow14, nx12, hm0⟩

theorem encode_ct (s : SV) (l : List (SV × Rec)) (w0 : World) (H0 : Heap)
    (hl : RdT H0 fP 1 s.v l) (hx : ∀ x ∈ l, RdT H0 fB 1 x.1.v x.2) (hrl : ∀ x ∈ l, x.2.length ≤ 1048576) (hel : (encN 0 (recs l)).length ≤ 1099510000000) :
    Ct Tryz.prog w0 46 #[s.v] H0 (fun r H2 => ∃ t : SV, ∃ k : Nat, r = t.v ∧ (Ow k 5 H2 fB 1 t.v (encW (recs l))) ∧ (Nx 0 H0.size k) ∧ Nw H0 H2) := by
  refine Ct.enter (args := [s.v]) Tryz.func46 rfl rfl rfl ?_
  intro Q0 hret
  have hm0 : Nw H0 H0 := Mo.refl _ _
  replace hl := hl.bnd
  have bf_hl := hl.bf
  replace hx := fun x hx0 => (hx x hx0).bnd
  have bf_hx : BF (fun b => True ∧ b < H0.size) H0.size := fun b h => h.2
  have hll := hl.len
  refine CW.seq (fun K1 hK1 hE1 => ?_)
  refine CW.region ?_
  refine LR.v (Y.assign rfl rfl) (Wd.u rfl) rfl rfl ?_
  refine LR.nil ?_
  refine hK1 _ _ ?_
  refine CW.seq (fun K2 hK2 hE2 => ?_)
  refine CW.region ?_
  refine LR.z (Z.litw _ (W8) rfl inf34 rfl rfl rfl (by decide) (by decide) fB_len fB_one (rfl)) (Wd.u rfl) rfl rfl (fun v6 H6 r6 => ?_)
  obtain ⟨ow, hs6, ob6, hH6⟩ := r6
  have hzs6 : H6.size = H0.size + 1 := by rw [hH6]; simp
  have df1 := (DF.new (bf_hl.mono hm0.size) : DF _ (H0.size + 1))
  have df2 := (DF.new (bf_hx.mono hm0.size) : DF _ (H0.size + 1))
  have nx3 : Nx 0 H0.size (H0.size + 1) := Nx.new hm0.size
  replace hl := hl.nw hs6
  replace hx := fun x hx0 => (hx x hx0).nw hs6
  replace hm0 := hm0.tr hs6
  have hz1 := hs6.size
  refine LR.z (Z.bconst ow (by decide) rfl Tryz.underlying34 Tryz.underlying5 rfl) (Wd.u rfl) rfl rfl (fun v7 H7 r7 => ?_)
  obtain ⟨rfl, ow, hs7⟩ := r7
  replace hs7 := hs7.md
  replace hl := hl.upL hs7 (DFL.cons df1 DFL.nil)
  replace hx := fun x hx0 => (hx x hx0).upL hs7 (DFL.cons df2 DFL.nil)
  replace hm0 := (Mo.trL (ks := []) (hm0.mdn []) hs7 (MIL.cons (MI.app MI.z (nx3) (Nat.le_refl _)) MIL.nil)).nil
  have hz2 := hs7.size
  refine LR.v (Y.assign rfl rfl) (Wd.u rfl) rfl rfl ?_
  refine LR.nil ?_
  refine hK2 _ _ ?_
  refine CW.seq (fun K3 hK3 hE3 => ?_)
  refine CW.seq (fun K4 hK4 hE4 => ?_)
  refine CW.region ?_
  refine LR.v (Y.move rfl rfl) (Wd.u rfl) rfl rfl ?_
  refine LR.v (Y.len hl rfl Tryz.runUnderlying22 rfl) (Wd.u rfl) rfl rfl ?_
  refine LR.v (Y.move rfl rfl) (Wd.u rfl) rfl rfl ?_
  refine LR.nil ?_
  refine hK4 _ _ ?_
  refine CW.block (fun K5 hK5 hX5 hE5 => ?_)
  refine CW.loop (fun (s_ : (Nat) × (Value) × (Nat)) => match s_ with | (i, vo, ko) => [(3, vo), (8, s.v), (9, .int .i64 (l.length : Int)), (10, .int .i64 (i : Int))])
    (fun (s_ : (Nat) × (Value) × (Nat)) (H : Heap) => match s_ with | (i, vo, ko) => (i ≤ l.length) ∧ (Ow ko 5 H fB 1 vo (W8 ++ encN 0 (recs (l.take i)))) ∧ (Nx (H0.size + 1) H7.size ko) ∧ Mo (Ms [(H0.size + 1)]) H7 H)
    (fun (s_ : (Nat) × (Value) × (Nat)) => match s_ with | (i, vo, ko) => l.length - i) (0, v7, (H0.size + 1)) ⟨rfl, rfl, rfl, rfl, trivial⟩ ?_ ?_
  ·
    exact ⟨(by omega), by simpa only [List.take_zero, recs, List.map_nil, encN, List.append_nil] using ow, Nx.refl _ _, Mo.refl _ _⟩
  rintro ⟨i, vo, ko⟩ HL1 hI1 K6 hN6 hE6
  obtain ⟨hi, ow, nxl_ow, hlm1⟩ := hI1
  have df4 := DF.app (df1) (bf_hl.mono hm0.size) nxl_ow
  have df5 := DF.app (df2) (bf_hx.mono hm0.size) nxl_ow
  have nx6 : Nx 0 H0.size ko := Nx.tr (nx3) nxl_ow hm0.size
  replace hl := hl.upL hlm1 (DFL.cons df1 DFL.nil)
  replace hx := fun x hx0 => (hx x hx0).upL hlm1 (DFL.cons df2 DFL.nil)
  replace hm0 := (Mo.trL (ks := []) (hm0.mdn []) hlm1 (MIL.cons (MI.app MI.z (nx3) (Nat.le_refl _)) MIL.nil)).nil
  have hz3 := hlm1.size
  have hle_ow := ow.le
  have nx7 := nxl_ow
  refine CW.seq (fun K7 hK7 hE7 => ?_)
  refine CW.region ?_
  refine LR.v (Y.lss rfl rfl rfl) (Wd.u rfl) rfl rfl ?_
  refine LR.nil ?_
  refine hK7 _ _ ?_
  refine CW.seq (fun K8 hK8 hE8 => ?_)
  refine CW.condp rfl (fun c11 => ?_) (fun c11 => ?_)
  ·
    refine CW.skip ?_
    refine hK8 _ _ ?_
    refine CW.seq (fun K9 hK9 hE9 => ?_)
    refine CW.block (fun K10 hK10 hX10 hE10 => ?_)
    refine CW.seq (fun K11 hK11 hE11 => ?_)
    refine CW.region ?_
    refine LR.v (Y.move rfl rfl) (Wd.u rfl) rfl rfl ?_
    have hil : i < l.length := by omega
    have hel2 := encN_take_le2 hil
    have hxi := hx l[i] (List.getElem_mem hil)
    have hri := hrl l[i] (List.getElem_mem hil)
    have h8 : W8.length = 8 := rfl
    have hwl := layW_len i l[i].2
    refine LR.e (g := fun ad => .pointer (some ad)) (Y.indexAddrF hl (i) rfl Tryz.runUnderlying22 Tryz.sizeOf34 rfl rfl (by first | rfl | omega) (by first | omega | (simp; omega) | (simp; done))) (Wd.u rfl) rfl rfl (fun ad13 pt13 => ?_)
    have bf_pt13 := bf_hl
    refine LR.v (Y.load1 pt13.pt rfl Tryz.isAgg34 rfl) (Wd.u rfl) rfl rfl ?_
    refine LR.v (Y.assign rfl rfl) (Wd.u rfl) rfl rfl ?_
    refine LR.v (Y.assign rfl rfl) (Wd.u rfl) rfl rfl ?_
    refine LR.nil ?_
    refine hK11 _ _ ?_
    refine CW.region ?_
    refine LR.v (Y.move rfl rfl) (Wd.u rfl) rfl rfl ?_
    refine LR.v (Y.move rfl rfl) (Wd.u rfl) rfl rfl ?_
    refine LR.v (Y.move rfl rfl) (Wd.u rfl) rfl rfl ?_
    -- call selvage/wal.lay
    refine LR.call rfl Tryz.call34 rfl (Wd.u rfl) rfl rfl (wlay_ct i l[i].1 l[i].2 w0 _ hxi.any (by omega)) (fun v18 H18 r18 => ?_)
    obtain ⟨t18, k18, rfl, ow18, hk18, hs18⟩ := r18
    have df8 := DF.app (DF.z) (bf_hl.mono hm0.size) hk18
    have df9 := DF.app (DF.z) (bf_hx.mono hm0.size) hk18
    have dj10 : Dj ko k18 := Dj.app (Dj.z) ow.le hk18
    have nx11 : Nx 0 H0.size k18 := Nx.tr (Nx.refl 0 _) hk18 hm0.size
    have nx12 : Nx 0 H7.size k18 := Nx.tr (Nx.refl 0 _) hk18 hlm1.size
    replace hl := hl.nw hs18
    replace hx := fun x hx0 => (hx x hx0).nw hs18
    replace ow := ow.nw hs18
    replace hm0 := hm0.tr hs18
    replace hlm1 := hlm1.trN hs18
    have hz4 := hs18.size
    have hle_ow18 := ow18.le
    refine LR.z (Z.apnd ow ow18.rd rfl inf34 rfl rfl (by simp only [List.length_append]; omega) (by simp only [List.length_append]; omega)) (Wd.u rfl) rfl rfl (fun v19 H19 r19 => ?_)
    obtain ⟨k19, ow, hk19, hs19⟩ := r19
    replace hk19 : Nx ko H18.size k19 := hk19
    replace hs19 := hs19.md
    have df13 := DF.app (df4) (bf_hl.mono hm0.size) hk19
    have df14 := DF.app (df5) (bf_hx.mono hm0.size) hk19
    have dj15 : Dj k18 k19 := Dj.app (dj10.symm) ow18.le hk19
    have nx16 : Nx 0 H0.size k19 := Nx.tr (nx6) hk19 hm0.size
    have nx17 : Nx (H0.size + 1) H7.size k19 := Nx.tr (nx7) hk19 hlm1.size
    replace hl := hl.upL hs19 (DFL.cons df4 DFL.nil)
    replace hx := fun x hx0 => (hx x hx0).upL hs19 (DFL.cons df5 DFL.nil)
    replace ow18 := ow18.upL hs19 (DL.cons dj10.symm DL.nil)
    replace hm0 := (Mo.trL (ks := []) (hm0.mdn []) hs19 (MIL.cons (MI.app MI.z (nx6) (Nat.le_refl _)) MIL.nil)).nil
    replace hlm1 := hlm1.trL hs19 (MIL.cons (MI.app (MI.root (by simp)) (nx7) (Nat.le_refl _)) MIL.nil)
    have hz5 := hs19.size
    have hle_ow := ow.le
    refine LR.z (Z.litw _ ([(67 : UInt8)]) rfl inf34 rfl rfl rfl (by decide) (by decide) fB_len fB_one (rfl)) (Wd.u rfl) rfl rfl (fun v20 H20 r20 => ?_)
    obtain ⟨ow20, hs20, ob20, hH20⟩ := r20
    have hzs20 : H20.size = H19.size + 1 := by rw [hH20]; simp
    have df18 := (DF.new (bf_hl.mono hm0.size) : DF _ (H19.size + 1))
    have df19 := (DF.new (bf_hx.mono hm0.size) : DF _ (H19.size + 1))
    have dj20 : Dj k19 (H19.size + 1) := Dj.new ow.le
    have dj21 : Dj k18 (H19.size + 1) := Dj.new ow18.le
    have nx22 : Nx 0 H0.size (H19.size + 1) := Nx.new hm0.size
    have nx23 : Nx 0 H7.size (H19.size + 1) := Nx.new hlm1.size
    replace hl := hl.nw hs20
    replace hx := fun x hx0 => (hx x hx0).nw hs20
    replace ow := ow.nw hs20
    replace ow18 := ow18.nw hs20
    replace hm0 := hm0.tr hs20
    replace hlm1 := hlm1.trN hs20
    have hz6 := hs20.size
    refine LR.z (Z.apnd ow ow20.rd rfl inf34 rfl rfl (by simp only [List.length_append, List.length_singleton]; omega) (by simp only [List.length_append, List.length_singleton]; omega)) (Wd.u rfl) rfl rfl (fun v21 H21 r21 => ?_)
    obtain ⟨k21, ow, hk21, hs21⟩ := r21
    replace hk21 : Nx k19 H20.size k21 := hk21
    replace hs21 := hs21.md
    have df24 := DF.app (df13) (bf_hl.mono hm0.size) hk21
    have df25 := DF.app (df14) (bf_hx.mono hm0.size) hk21
    have dj26 : Dj k18 k21 := Dj.app (dj15) ow18.le hk21
    have dj27 : Dj (H19.size + 1) k21 := Dj.app (dj20.symm) ow20.le hk21
    have nx28 : Nx 0 H0.size k21 := Nx.tr (nx16) hk21 hm0.size
    have nx29 : Nx (H0.size + 1) H7.size k21 := Nx.tr (nx17) hk21 hlm1.size
    replace hl := hl.upL hs21 (DFL.cons df13 DFL.nil)
    replace hx := fun x hx0 => (hx x hx0).upL hs21 (DFL.cons df14 DFL.nil)
    replace ow18 := ow18.upL hs21 (DL.cons dj15 DL.nil)
    replace ow20 := ow20.upL hs21 (DL.cons dj20.symm DL.nil)
    replace hm0 := (Mo.trL (ks := []) (hm0.mdn []) hs21 (MIL.cons (MI.app MI.z (nx16) (Nat.le_refl _)) MIL.nil)).nil
    replace hlm1 := hlm1.trL hs21 (MIL.cons (MI.app (MI.root (by simp)) (nx17) (Nat.le_refl _)) MIL.nil)
    have hz7 := hs21.size
    have hle_ow := ow.le
    refine LR.v (Y.assign rfl rfl) (Wd.u rfl) rfl rfl ?_
    refine LR.nil ?_
    refine hK10 _ _ ?_
    refine hK9 _ _ ?_
    refine CW.region ?_
    refine LR.v (Y.addi rfl rfl rfl (by omega)) (Wd.u rfl) rfl rfl ?_
    refine LR.v (Y.move rfl rfl) (Wd.u rfl) rfl rfl ?_
    refine LR.nil ?_
    refine QN.sub (hN6 (i + 1, v21, k21) _ ?_ ?_) ⟨rfl, rfl, (iv (by omega)), (iv (by omega)), trivial⟩
    · exact ⟨(by omega), by rw [encN_take hil, ← List.append_assoc]; unfold recW; rw [← List.append_assoc]; exact ow, nx29, hlm1⟩
    · first | omega | (simp only; omega) | (simp; omega)
  ·
    refine CW.exit (hE8 (.exit 0) nofun _ _ (hE6 (.exit 0) nofun _ _ (hX5 _ _ ?_)))
    refine hK3 _ _ ?_
    refine CW.seq (fun K12 hK12 hE12 => ?_)
    refine CW.region ?_
    refine LR.v (Y.move rfl rfl) (Wd.u rfl) rfl rfl ?_
    refine LR.v (Y.assign rfl rfl) (Wd.u rfl) rfl rfl ?_
    refine LR.nil ?_
    refine hK12 _ _ ?_
    refine CW.ret (hret .ret (.inr rfl) _ _ _ (res1 rfl rfl) ?_)
    have hil : i = l.length := by omega
    rw [hil, List.take_length] at ow
    obtain ⟨so, rfl⟩ : ∃ s : SV, vo = s.v := ⟨toSV vo, ow.sv.symm⟩
    exact ⟨so, ko, rfl, ow, nx6, hm0⟩

theorem equal_ct (s t : SV) (a b : List UInt8) (w0 : World) (H0 : Heap)
    (ha : RdT H0 fB 1 s.v a) (hb : RdT H0 fB 1 t.v b) :
    Ct Tryz.prog w0 71 #[s.v, t.v] H0 (fun r H2 => r = .bool (decide (a = b)) ∧ Nw H0 H2) := by
  refine Ct.enter (args := [s.v, t.v]) Tryz.func71 rfl rfl rfl ?_
  intro Q0 hret
  have hm0 : Nw H0 H0 := Mo.refl _ _
  replace ha := ha.bnd
  have bf_ha := ha.bf
  replace hb := hb.bnd
  have bf_hb := hb.bf
  refine CW.seq (fun K1 hK1 hE1 => ?_)
  refine CW.region ?_
  refine LR.v (Y.assign rfl rfl) (Wd.u rfl) rfl rfl ?_
  refine LR.nil ?_
  refine hK1 _ _ ?_
  refine CW.seq (fun K2 hK2 hE2 => ?_)
  refine CW.region ?_
  refine LR.v (Y.move rfl rfl) (Wd.u rfl) rfl rfl ?_
  refine LR.v (Y.bstr ha rfl Tryz.underlying34 Tryz.underlying9 Tryz.underlying5 rfl) (Wd.u rfl) rfl rfl ?_
  refine LR.v (Y.move rfl rfl) (Wd.u rfl) rfl rfl ?_
  refine LR.v (Y.bstr hb rfl Tryz.underlying34 Tryz.underlying9 Tryz.underlying5 rfl) (Wd.u rfl) rfl rfl ?_
  refine LR.v (Y.seql rfl rfl rfl) (Wd.u rfl) rfl rfl ?_
  refine LR.v (Y.assign rfl rfl) (Wd.u rfl) rfl rfl ?_
  refine LR.nil ?_
  refine hK2 _ _ ?_
  refine CW.ret (hret .ret (.inr rfl) _ _ _ (res1 rfl rfl) ?_)
  exact ⟨rfl, hm0⟩

end Go.Proofs.YtdliddjkacbggaaGreatDoor.WalB
/-
  A journal's bytes: the contract of the function that reads them.
-/
namespace Go.Proofs.YtdliddjkacbggaaGreatDoor.WalC
open Go.Proofs.YtdliddjkacbggaaGreatDoor.E Go.RowKit Go.Proofs.YtdliddjkacbggaaGreatDoor.SumB Go.Proofs.YtdliddjkacbggaaGreatDoor.SumC Go.Proofs.YtdliddjkacbggaaGreatDoor.SumD Go.Proofs.YtdliddjkacbggaaGreatDoor.SumF Go.Proofs.YtdliddjkacbggaaGreatDoor.SumG Go.Proofs.YtdliddjkacbggaaGreatDoor.DelA Go.Proofs.YtdliddjkacbggaaGreatDoor.SimA Go.Proofs.YtdliddjkacbggaaGreatDoor.SimB Go.Proofs.YtdliddjkacbggaaGreatDoor.WalA Go.Proofs.YtdliddjkacbggaaGreatDoor.WalB
set_option maxRecDepth 20000
set_option linter.unusedVariables false
set_option linter.unusedSimpArgs false
set_option linter.unusedSectionVars false
set_option maxRecDepth 100000 in
theorem inf22 : Inf Tryz.prog 22 34 1 24 := ⟨Tryz.underlying22, _, _, rfl, rfl, rfl, rfl, rfl⟩
set_option maxRecDepth 100000 in
theorem inf34 : Inf Tryz.prog 34 5 1 1 := ⟨Tryz.underlying34, _, _, rfl, rfl, rfl, rfl, rfl⟩

theorem big_or {b : List UInt8} (h : 4 ≤ b.length) : ((b[0].toNat * 2 ^ 24 ||| b[1].toNat * 2 ^ 16) ||| b[2].toNat * 2 ^ 8) ||| b[3].toNat = big b := by
  match b, h with
  | a :: b :: c :: d :: t, _ =>
    have h1 := a.toNat_lt; have h2 := b.toNat_lt; have h3 := c.toNat_lt; have h4 := d.toNat_lt
    have e1 : a.toNat * 2 ^ 24 ||| b.toNat * 2 ^ 16 = (a.toNat * 256 + b.toNat) * 2 ^ 16 := by
      rw [show a.toNat * 2 ^ 24 = (a.toNat * 2 ^ 8) * 2 ^ 16 by omega, ← Nat.shiftLeft_eq _ 16, ← Nat.shiftLeft_eq b.toNat 16, ← Nat.shiftLeft_or_distrib, or256, Nat.shiftLeft_eq]
    have e2 : (a.toNat * 256 + b.toNat) * 2 ^ 16 ||| c.toNat * 2 ^ 8 = ((a.toNat * 256 + b.toNat) * 256 + c.toNat) * 2 ^ 8 := by
      rw [show (a.toNat * 256 + b.toNat) * 2 ^ 16 = ((a.toNat * 256 + b.toNat) * 2 ^ 8) * 2 ^ 8 by omega, ← Nat.shiftLeft_eq _ 8, ← Nat.shiftLeft_eq c.toNat 8, ← Nat.shiftLeft_or_distrib, or256, Nat.shiftLeft_eq]
    simp only [List.getElem_cons_zero, List.getElem_cons_succ]
    rw [e1, e2, or256]
    simp [big, bev]
/-- a journal read up to a place -/
structure PS (b : List UInt8) (l : List Rec) (at_ : Nat) : Prop where
  ln : at_ = (encW l).length
  eq : b = encW l ++ b.drop at_
  pp : parL b = l ++ parP l.length (b.drop at_)
  e : parE b = 0
theorem PS.le {b : List UInt8} {l : List Rec} {a : Nat} (h : PS b l a) : a ≤ b.length := by
  have h1 := congrArg List.length h.eq
  rw [List.length_append, ← h.ln] at h1; omega
theorem PS.start {b : List UInt8} (h : b.take 8 = W8) : PS b [] 8 :=
  ⟨rfl, by show b = (W8 ++ []) ++ b.drop 8; rw [List.append_nil, ← h, List.take_append_drop], by unfold parL; rw [if_pos h]; rfl, by unfold parE; rw [if_pos h]⟩
theorem PS.step {b : List UInt8} {l : List Rec} {a : Nat} {r : Rec} (h : PS b l a) (h1 : oneW l.length (b.drop a) = some r) : PS b (l ++ [r]) (a + (13 + r.length)) := by
  have h2 := oneW_some h1
  refine ⟨by rw [encW_snoc, List.length_append, recW_len, ← h.ln], ?_, ?_, h.e⟩
  · rw [encW_snoc, List.append_assoc, ← List.drop_drop, ← h2]; exact h.eq
  · rw [h.pp, parP_step h1, List.drop_drop, List.append_assoc]; simp
theorem PS.stop {b : List UInt8} {l : List Rec} {a : Nat} (h : PS b l a) (h1 : oneW l.length (b.drop a) = none) : l = parL b ∧ a = parS b := by
  have h2 : l = parL b := by rw [h.pp, parP_stop h1, List.append_nil]
  refine ⟨h2, ?_⟩
  have h8 : b.take 8 = W8 := by have := h.e; unfold parE at this; split at this; assumption; cases this
  unfold parS; rw [if_pos h8, ← h2]; exact h.ln
theorem oneW_short {n : Nat} {b : List UInt8} (h : b.length ≤ 12) : oneW n b = none := by unfold oneW; rw [if_pos (.inl h)]
theorem oneW_big {n : Nat} {b : List UInt8} (h : 1048576 < big b ∨ b.length ≤ 12 + big b) : oneW n b = none := by unfold oneW; rw [if_pos (by omega)]
theorem oneW_mark {n : Nat} {b : List UInt8} (h : b.getD (12 + big b) 0 ≠ 67) : oneW n b = none := by
  unfold oneW; split
  · rfl
  · rw [if_neg (fun h2 => h h2.1)]
theorem oneW_chk {n : Nat} {b : List UInt8} (h : (b.drop 4).take 8 ≠ chkW n ((b.drop 12).take (big b))) : oneW n b = none := by
  unfold oneW; split
  · rfl
  · rw [if_neg (fun h2 => h h2.2)]
theorem oneW_yes {n : Nat} {b : List UInt8} (h0 : ¬ b.length ≤ 12) (h1 : ¬ 1048576 < big b) (h2 : ¬ b.length ≤ 12 + big b) (h3 : b.getD (12 + big b) 0 = 67) (h4 : (b.drop 4).take 8 = chkW n ((b.drop 12).take (big b))) : oneW n b = some ((b.drop 12).take (big b)) := by
  unfold oneW; rw [if_neg (by omega), if_pos ⟨h3, h4⟩]
theorem take_drop' (b : List UInt8) (i n : Nat) : (b.take (i + n)).drop i = (b.drop i).take n := by rw [List.drop_take]; congr 1; omega
theorem u8_ne {x : UInt8} {n : Nat} (h : (x.toNat : Int) ≠ (n : Int)) (hn : n < 256) : x ≠ UInt8.ofNat n := fun e => h (by rw [e, UInt8.toNat_ofNat']; omega)
theorem u8_eq {x : UInt8} {n : Nat} (h : (x.toNat : Int) = (n : Int)) (hn : n < 256) : x = UInt8.ofNat n := UInt8.toNat.inj (by rw [UInt8.toNat_ofNat']; omega)
theorem getD_at {b : List UInt8} {i : Nat} (h : i < b.length) : b.getD i 0 = b[i] := by rw [List.getD_eq_getElem?_getD, List.getElem?_eq_getElem h]; rfl
theorem DF.or1 {G : Nat → Prop} {kB k : Nat} (h : DF G k) (hB : Dj k kB) : DF (fun b => G b ∨ b + 1 = kB) k := by
  rintro b (e | e) h2
  · exact h b e h2
  · exact hB b h2 e
theorem BF.or1 {G : Nat → Prop} {n kB : Nat} (h : BF G n) (h1 : kB ≤ n) : BF (fun b => G b ∨ b + 1 = kB) n := by
  rintro b (e | e)
  · exact h b e
  · omega
theorem or63 {a b : Nat} (h1 : a < 2 ^ 62) (h2 : b < 2 ^ 62) : a ||| b < 2 ^ 62 := Nat.or_lt_two_pow h1 h2
theorem encW_many (l : List Rec) : l.length ≤ (encW l).length := by
  rw [encW_len]
  have : ∀ l : List Rec, l.length ≤ (l.map (fun r => 13 + r.length)).sum := fun l => by
    induction l with
    | nil => simp
    | cons r l ih => simp only [List.length_cons, List.map_cons, List.sum_cons]; omega
  have := this l; omega
theorem snocP {α : Type} {F G : Nat → Prop} {H : Heap} {fb : α → SV × Rec} {l : List (SV × Rec)} {x : SV × Rec} (h : ∀ y ∈ l, Rd F H fB 1 y.1.v y.2) (hF : ∀ b, F b → G b) (hx : Rd G H fB 1 x.1.v x.2) : ∀ y ∈ l ++ [x], Rd G H fB 1 y.1.v y.2 := fun y hy => by
  rcases List.mem_append.1 hy with hy | hy
  · exact (h y hy).imp (fun b _ e => hF b e)
  · rw [List.mem_singleton.1 hy]; exact hx

theorem hasP_ct (s t : SV) (a p : List UInt8) (w0 : World) (H0 : Heap)
    (ha : RdT H0 fB 1 s.v a) (hb : RdT H0 fB 1 t.v p) :
    Ct Tryz.prog w0 70 #[s.v, t.v] H0 (fun r H2 => r = .bool (decide (a.take p.length = p)) ∧ Nw H0 H2) := by
  refine Ct.enter (args := [s.v, t.v]) Tryz.func70 rfl rfl rfl ?_
  intro Q0 hret
  have hm0 : Nw H0 H0 := Mo.refl _ _
  replace ha := ha.bnd
  have bf_ha := ha.bf
  replace hb := hb.bnd
  have bf_hb := hb.bf
  refine CW.seq (fun K1 hK1 hE1 => ?_)
  refine CW.region ?_
  refine LR.v (Y.assign rfl rfl) (Wd.u rfl) rfl rfl ?_
  refine LR.nil ?_
  refine hK1 _ _ ?_
  refine CW.seq (fun K2 hK2 hE2 => ?_)
  refine CW.region ?_
  refine LR.v (Y.move rfl rfl) (Wd.u rfl) rfl rfl ?_
  refine LR.v (Y.len ha rfl Tryz.runUnderlying34 rfl) (Wd.u rfl) rfl rfl ?_
  refine LR.v (Y.move rfl rfl) (Wd.u rfl) rfl rfl ?_
  refine LR.v (Y.len hb rfl Tryz.runUnderlying34 rfl) (Wd.u rfl) rfl rfl ?_
  refine LR.v (Y.geq rfl rfl rfl) (Wd.u rfl) rfl rfl ?_
  refine LR.v (Y.move rfl rfl) (Wd.u rfl) rfl rfl ?_
  refine LR.splitp (d := 10) rfl (fun g10 => ?_) (fun g10 => ?_)
  ·
    refine LR.v (Y.move rfl rfl) (Wd.g rfl rfl rfl) rfl rfl ?_
    refine LR.v (Y.move rfl rfl) (Wd.g rfl rfl rfl) rfl rfl ?_
    refine LR.v (Y.len hb rfl Tryz.runUnderlying34 rfl) (Wd.g rfl rfl rfl) rfl rfl ?_
    refine LR.e (g := fun v => v) (Y.slice ha (0) (p.length) rfl Tryz.runUnderlying34 Tryz.sizeOf5 rfl (.inl ⟨rfl, rfl⟩) (.inr ⟨_, _, _, rfl, rfl, by first | rfl | omega⟩) (by omega) (by omega)) (Wd.g rfl rfl rfl) rfl rfl (fun v14 rd14 => ?_)
    have bf_rd14 := bf_ha
    rw [List.drop_zero] at rd14
    obtain ⟨s14, rfl⟩ : ∃ s : SV, v14 = s.v := ⟨toSV v14, rd14.sv.symm⟩
    refine LR.v (Y.move rfl rfl) (Wd.g rfl rfl rfl) rfl rfl ?_
    -- call bytes.Equal
    refine LR.call rfl Tryz.call71 rfl (Wd.g rfl rfl rfl) rfl rfl (equal_ct s14 t (a.take p.length) p w0 _ rd14.any hb.any) (fun v16 H16 r16 => ?_)
    obtain ⟨rfl, hs16⟩ := r16
    replace ha := ha.nw hs16
    replace hb := hb.nw hs16
    replace rd14 := rd14.nw hs16
    replace hm0 := hm0.tr hs16
    have hz1 := hs16.size
    refine LR.v (Y.pick_t rfl rfl rfl) (Wd.u rfl) rfl rfl ?_
    refine LR.v (Y.assign rfl rfl) (Wd.u rfl) rfl rfl ?_
    refine LR.nil ?_
    refine hK2 _ _ ?_
    refine CW.ret (hret .ret (.inr rfl) _ _ _ (res1 rfl rfl) ?_)
    exact ⟨rfl, hm0⟩
  ·
    refine LR.gs rfl rfl rfl rfl rfl rfl ?_
    refine LR.gs rfl rfl rfl rfl rfl rfl ?_
    refine LR.gs rfl rfl rfl rfl rfl rfl ?_
    refine LR.gs rfl rfl rfl rfl rfl rfl ?_
    refine LR.gs rfl rfl rfl rfl rfl rfl ?_
    refine LR.gs rfl rfl rfl rfl rfl rfl ?_
    refine LR.v (Y.pick_f rfl rfl rfl) (Wd.u rfl) rfl rfl ?_
    refine LR.v (Y.assign rfl rfl) (Wd.u rfl) rfl rfl ?_
    refine LR.nil ?_
    refine hK2 _ _ ?_
    refine CW.ret (hret .ret (.inr rfl) _ _ _ (res1 rfl rfl) ?_)
    exact ⟨by rw [decide_eq_false (fun h => by have h2 := congrArg List.length h; rw [List.length_take] at h2; omega)], hm0⟩

set_option maxHeartbeats 2000000 in
theorem parse_ct (s : SV) (b : List UInt8) (w0 : World) (H0 : Heap)
    (hb : RdT H0 fB 1 s.v b) (hbl : b.length ≤ 1000000000) :
    Ct Tryz.prog w0 27 #[s.v] H0 (fun r H2 => ∃ t : SV, ∃ l : List (SV × Rec), r = .tuple #[t.v, .int .i64 (parS b : Int), .int .i64 (parE b : Int)] ∧ (recs l = parL b) ∧ (Rd (fun b => H0.size ≤ b) H2 fP 1 t.v l) ∧ (∀ x ∈ l, Rd (fun b => H0.size ≤ b) H2 fB 1 x.1.v x.2) ∧ Nw H0 H2) := by
  refine Ct.enter (args := [s.v]) Tryz.func27 rfl rfl rfl ?_
  intro Q0 hret
  have hm0 : Nw H0 H0 := Mo.refl _ _
  replace hb := hb.bnd
  have bf_hb := hb.bf
  refine CW.seq (fun K1 hK1 hE1 => ?_)
  refine CW.region ?_
  refine LR.v (Y.assign rfl rfl) (Wd.u rfl) rfl rfl ?_
  refine LR.v (Y.assign rfl rfl) (Wd.u rfl) rfl rfl ?_
  refine LR.v (Y.assign rfl rfl) (Wd.u rfl) rfl rfl ?_
  refine LR.nil ?_
  refine hK1 _ _ ?_
  refine CW.scope (fun K2 hK2 hE2 => ?_)
  refine CW.seq (fun K3 hK3 hE3 => ?_)
  refine CW.seq (fun K4 hK4 hE4 => ?_)
  refine CW.region ?_
  refine LR.v (Y.move rfl rfl) (Wd.u rfl) rfl rfl ?_
  refine LR.z (Z.litw _ (W8) rfl inf34 rfl rfl rfl (by decide) (by decide) fB_len fB_one (rfl)) (Wd.u rfl) rfl rfl (fun v11 H11 r11 => ?_)
  obtain ⟨ow11, hs11, ob11, hH11⟩ := r11
  have hzs11 : H11.size = H0.size + 1 := by rw [hH11]; simp
  have df1 := (DF.new (bf_hb.mono hm0.size) : DF _ (H0.size + 1))
  have nx2 : Nx 0 H0.size (H0.size + 1) := Nx.new hm0.size
  replace hb := hb.nw hs11
  replace hm0 := hm0.tr hs11
  have hz1 := hs11.size
  refine LR.z (Z.bconst ow11 (by decide) rfl Tryz.underlying34 Tryz.underlying5 rfl) (Wd.u rfl) rfl rfl (fun v12 H12 r12 => ?_)
  obtain ⟨rfl, ow11, hs12⟩ := r12
  replace hs12 := hs12.md
  replace hb := hb.upL hs12 (DFL.cons df1 DFL.nil)
  replace hm0 := (Mo.trL (ks := []) (hm0.mdn []) hs12 (MIL.cons (MI.app MI.z (nx2) (Nat.le_refl _)) MIL.nil)).nil
  have hz2 := hs12.size
  obtain ⟨s12, rfl⟩ : ∃ s : SV, v12 = s.v := ⟨toSV v12, ow11.sv.symm⟩
  -- call bytes.HasPrefix
  refine LR.call rfl Tryz.call70 rfl (Wd.u rfl) rfl rfl (hasP_ct s s12 b W8 w0 _ hb.any ow11.rd.any) (fun v13 H13 r13 => ?_)
  obtain ⟨rfl, hs13⟩ := r13
  replace hb := hb.nw hs13
  replace ow11 := ow11.nw hs13
  replace hm0 := hm0.tr hs13
  have hz3 := hs13.size
  refine LR.v (Y.notp rfl rfl) (Wd.u rfl) rfl rfl ?_
  refine LR.nil ?_
  refine hK4 _ _ ?_
  refine CW.condp rfl (fun c14 => ?_) (fun c14 => ?_)
  ·
    refine CW.seq (fun K5 hK5 hE5 => ?_)
    refine CW.region ?_
    refine LR.v (Y.assign rfl rfl) (Wd.u rfl) rfl rfl ?_
    refine LR.v (Y.assign rfl rfl) (Wd.u rfl) rfl rfl ?_
    refine LR.v (Y.assign rfl rfl) (Wd.u rfl) rfl rfl ?_
    refine LR.nil ?_
    refine hK5 _ _ ?_
    refine CW.ret (hE3 .ret nofun _ _ (hE2 .ret nofun nofun _ _ (hret .ret (.inr rfl) _ _ _ (res3 rfl rfl rfl rfl) ?_)))
    have h8 : ¬ b.take 8 = W8 := c14
    exact ⟨⟨none, 0, 0⟩, [], by unfold parS parE; rw [if_neg h8, if_neg h8]; rfl, by unfold parL; rw [if_neg h8]; rfl, Rd.nil _ _ _ _, (fun x h => by cases h), hm0⟩
  ·
    have h8 : b.take 8 = W8 := Decidable.byContradiction (fun h => c14 h)
    refine CW.skip ?_
    refine hK3 _ _ ?_
    refine CW.seq (fun K6 hK6 hE6 => ?_)
    refine CW.region ?_
    refine LR.v (Y.assign rfl rfl) (Wd.u rfl) rfl rfl ?_
    refine LR.nil ?_
    refine hK6 _ _ ?_
    refine CW.seq (fun K7 hK7 hE7 => ?_)
    refine CW.region ?_
    refine LR.v (Y.assign rfl rfl) (Wd.u rfl) rfl rfl ?_
    refine LR.nil ?_
    refine hK7 _ _ ?_
    refine CW.seq (fun K8 hK8 hE8 => ?_)
    refine CW.label ?_
    refine hK8 _ _ ?_
    refine CW.seq (fun K9 hK9 hE9 => ?_)
    refine CW.block (fun K10 hK10 hX10 hE10 => ?_)
    refine CW.loop (fun (s_ : (Nat) × (Value) × (Nat) × (List (SV × Rec)) × (Nat → Prop)) => match s_ with | (a, vo, ko, l, G) => [(0, s.v), (5, vo), (6, .int .i64 (a : Int))])
      (fun (s_ : (Nat) × (Value) × (Nat) × (List (SV × Rec)) × (Nat → Prop)) (H : Heap) => match s_ with | (a, vo, ko, l, G) => (PS b (recs l) a) ∧ (Ow ko 34 H fP 1 vo l) ∧ (∀ x ∈ l, Rd G H fB 1 x.1.v x.2) ∧ (BF G H.size) ∧ (DF G ko) ∧ (∀ c, G c → H0.size ≤ c) ∧ (Nx 0 H13.size ko) ∧ Nw H13 H)
      (fun (s_ : (Nat) × (Value) × (Nat) × (List (SV × Rec)) × (Nat → Prop)) => match s_ with | (a, vo, ko, l, G) => b.length - a) (8, .slice none 0 0, 0, [], fun _ => False) ⟨rfl, rfl, rfl, trivial⟩ ?_ ?_
    ·
      exact ⟨PS.start h8, Ow.nil fP_len fP_one, (fun x h => by cases h), (fun b e => e.elim), (fun b e => e.elim), (fun c e => e.elim), Nx.refl _ _, Mo.refl _ _⟩
    rintro ⟨a, vo, ko, l, G⟩ HL1 hI1 K11 hN11 hE11
    obtain ⟨hps, ow, hxa, bf_hxa, f1, hG, nxl_ow, hlm1⟩ := hI1
    have df3 := DF.app (DF.z) (bf_hb.mono hm0.size) nxl_ow
    have nx4 : Nx 0 H0.size ko := Nx.tr (Nx.refl 0 _) nxl_ow hm0.size
    replace hb := hb.nw hlm1
    replace hm0 := hm0.tr hlm1
    have hz4 := hlm1.size
    have hle_ow := ow.le
    have nx5 := nxl_ow
    have hal := hps.le
    have hrl : (b.drop a).length = b.length - a := List.length_drop
    have hln : (recs l).length = l.length := by simp [recs]
    have hll := hps.ln
    have hle8 : l.length ≤ (encW (recs l)).length := by rw [← hln]; exact encW_many _
    refine CW.block (fun K12 hK12 hX12 hE12 => ?_)
    refine CW.seq (fun K13 hK13 hE13 => ?_)
    refine CW.region ?_
    refine LR.v (Y.move rfl rfl) (Wd.u rfl) rfl rfl ?_
    refine LR.v (Y.move rfl rfl) (Wd.u rfl) rfl rfl ?_
    refine LR.e (g := fun v => v) (Y.slice hb (a) (_) rfl Tryz.runUnderlying34 Tryz.sizeOf5 rfl (.inr ⟨_, _, _, rfl, rfl, by first | rfl | omega⟩) (.inl ⟨rfl, rfl⟩) (by omega) (by omega)) (Wd.u rfl) rfl rfl (fun v17 rd17 => ?_)
    have bf_rd17 := bf_hb
    rw [List.take_length] at rd17
    refine LR.v (Y.assign rfl rfl) (Wd.u rfl) rfl rfl ?_
    refine LR.nil ?_
    refine hK13 _ _ ?_
    refine CW.seq (fun K14 hK14 hE14 => ?_)
    refine CW.seq (fun K15 hK15 hE15 => ?_)
    refine CW.region ?_
    refine LR.v (Y.move rfl rfl) (Wd.u rfl) rfl rfl ?_
    refine LR.v (Y.len rd17 rfl Tryz.runUnderlying34 rfl) (Wd.u rfl) rfl rfl ?_
    refine LR.v (Y.leq rfl rfl rfl) (Wd.u rfl) rfl rfl ?_
    refine LR.nil ?_
    refine hK15 _ _ ?_
    refine CW.condp rfl (fun c20 => ?_) (fun c20 => ?_)
    ·
      have hno : oneW (recs l).length (b.drop a) = none := oneW_short (by omega)
      refine CW.exit (hE14 (.exit 0) nofun _ _ (hE12 (.exit 0) nofun (by simp) _ _ (hE11 (.exit 0) nofun _ _ (hX10 _ _ ?_))))
      refine hK9 _ _ ?_
      refine CW.seq (fun K16 hK16 hE16 => ?_)
      refine CW.region ?_
      refine LR.v (Y.move rfl rfl) (Wd.u rfl) rfl rfl ?_
      refine LR.v (Y.move rfl rfl) (Wd.u rfl) rfl rfl ?_
      refine LR.v (Y.assign rfl rfl) (Wd.u rfl) rfl rfl ?_
      refine LR.v (Y.assign rfl rfl) (Wd.u rfl) rfl rfl ?_
      refine LR.v (Y.assign rfl rfl) (Wd.u rfl) rfl rfl ?_
      refine LR.nil ?_
      refine hK16 _ _ ?_
      refine CW.ret (hE2 .ret nofun nofun _ _ (hret .ret (.inr rfl) _ _ _ (res3 rfl rfl rfl rfl) ?_))
      obtain ⟨q1, q2⟩ := hps.stop hno
      obtain ⟨so, rfl⟩ : ∃ s : SV, vo = s.v := ⟨toSV vo, ow.sv.symm⟩
      exact ⟨so, l, by rw [hps.e, ← q2]; rfl, q1, (ow.rd.imp (fun c _ e => by have h9 := (nx4); unfold Nx at h9; omega)), (fun x h => (hxa x h).imp (fun c _ e => hG c e)), hm0⟩
    ·
      have hR : 12 < (b.drop a).length := by omega
      have hbo := big_or (b := b.drop a) (by omega)
      have hb4 : big (b.drop a) < 4294967296 := bev4 _ (by rw [List.length_take]; omega)
      refine CW.skip ?_
      refine hK14 _ _ ?_
      refine CW.seq (fun K17 hK17 hE17 => ?_)
      refine CW.region_draw rfl (by kernel_rfl) ?_
      refine LR.v (Y.move rfl rfl) (Wd.u rfl) rfl rfl ?_
      refine LR.e (g := fun ad => .pointer (some ad)) (Y.indexAddrF rd17 (0) rfl Tryz.runUnderlying34 Tryz.sizeOf5 rfl rfl (by first | rfl | omega) (by first | omega | (simp; omega) | (simp; done))) (Wd.u rfl) rfl rfl (fun ad22 pt22 => ?_)
      have bf_pt22 := bf_rd17
      refine LR.v (Y.load1 pt22.pt rfl Tryz.isAgg5 rfl) (Wd.u rfl) rfl rfl ?_
      refine LR.v (Y.conv8i rfl Tryz.runUnderlying5 Tryz.runUnderlying3 rfl) (Wd.u rfl) rfl rfl ?_
      refine LR.v (Y.shln (24) rfl rfl rfl (by first | rfl | omega) (by omega) (by have := ((b.drop a)[0]).toNat_lt; omega)) (Wd.u rfl) rfl rfl ?_
      refine LR.v (Y.move rfl rfl) (Wd.u rfl) rfl rfl ?_
      refine LR.e (g := fun ad => .pointer (some ad)) (Y.indexAddrF rd17 (1) rfl Tryz.runUnderlying34 Tryz.sizeOf5 rfl rfl (by first | rfl | omega) (by first | omega | (simp; omega) | (simp; done))) (Wd.u rfl) rfl rfl (fun ad27 pt27 => ?_)
      have bf_pt27 := bf_rd17
      refine LR.v (Y.load1 pt27.pt rfl Tryz.isAgg5 rfl) (Wd.u rfl) rfl rfl ?_
      refine LR.v (Y.conv8i rfl Tryz.runUnderlying5 Tryz.runUnderlying3 rfl) (Wd.u rfl) rfl rfl ?_
      refine LR.v (Y.shln (16) rfl rfl rfl (by first | rfl | omega) (by omega) (by have := ((b.drop a)[1]).toNat_lt; omega)) (Wd.u rfl) rfl rfl ?_
      refine LR.v (Y.orn rfl rfl rfl (by have h0 := (b.drop a)[0].toNat_lt; omega) (by have h0 := (b.drop a)[1].toNat_lt; omega)) (Wd.u rfl) rfl rfl ?_
      refine LR.v (Y.move rfl rfl) (Wd.u rfl) rfl rfl ?_
      refine LR.e (g := fun ad => .pointer (some ad)) (Y.indexAddrF rd17 (2) rfl Tryz.runUnderlying34 Tryz.sizeOf5 rfl rfl (by first | rfl | omega) (by first | omega | (simp; omega) | (simp; done))) (Wd.u rfl) rfl rfl (fun ad33 pt33 => ?_)
      have bf_pt33 := bf_rd17
      refine LR.v (Y.load1 pt33.pt rfl Tryz.isAgg5 rfl) (Wd.u rfl) rfl rfl ?_
      refine LR.v (Y.conv8i rfl Tryz.runUnderlying5 Tryz.runUnderlying3 rfl) (Wd.u rfl) rfl rfl ?_
      refine LR.v (Y.shln (8) rfl rfl rfl (by first | rfl | omega) (by omega) (by have := ((b.drop a)[2]).toNat_lt; omega)) (Wd.u rfl) rfl rfl ?_
      refine LR.v (Y.orn rfl rfl rfl (by have h0 := (b.drop a)[0].toNat_lt; have h1 := (b.drop a)[1].toNat_lt; exact Nat.le_trans (Nat.le_of_lt (or63 (by omega) (by omega))) (by decide)) (by have h0 := (b.drop a)[2].toNat_lt; omega)) (Wd.u rfl) rfl rfl ?_
      refine LR.v (Y.move rfl rfl) (Wd.u rfl) rfl rfl ?_
      refine LR.e (g := fun ad => .pointer (some ad)) (Y.indexAddrF rd17 (3) rfl Tryz.runUnderlying34 Tryz.sizeOf5 rfl rfl (by first | rfl | omega) (by first | omega | (simp; omega) | (simp; done))) (Wd.u rfl) rfl rfl (fun ad39 pt39 => ?_)
      have bf_pt39 := bf_rd17
      refine LR.v (Y.load1 pt39.pt rfl Tryz.isAgg5 rfl) (Wd.u rfl) rfl rfl ?_
      refine LR.v (Y.conv8i rfl Tryz.runUnderlying5 Tryz.runUnderlying3 rfl) (Wd.u rfl) rfl rfl ?_
      refine LR.v (Y.cast (v2 := .int .i64 (big (b.drop a) : Int)) (Y.orn rfl rfl rfl (by have h0 := (b.drop a)[0].toNat_lt; have h1 := (b.drop a)[1].toNat_lt; have h2 := (b.drop a)[2].toNat_lt; exact Nat.le_trans (Nat.le_of_lt (or63 (or63 (by omega) (by omega)) (by omega))) (by decide)) (by have h0 := (b.drop a)[3].toNat_lt; omega)) (by rw [hbo])) (Wd.u rfl) rfl rfl ?_
      refine LR.v (Y.assign rfl rfl) (Wd.u rfl) rfl rfl ?_
      refine LR.nil ?_
      refine hK17 _ _ ?_
      refine CW.seq (fun K18 hK18 hE18 => ?_)
      refine CW.seq (fun K19 hK19 hE19 => ?_)
      refine CW.region ?_
      refine LR.v (Y.move rfl rfl) (Wd.u rfl) rfl rfl ?_
      refine LR.v (Y.gtr rfl rfl rfl) (Wd.u rfl) rfl rfl ?_
      refine LR.v (Y.move rfl rfl) (Wd.u rfl) rfl rfl ?_
      refine LR.splitp (d := 45) rfl (fun g45 => ?_) (fun g45 => ?_)
      ·
        have hno : oneW (recs l).length (b.drop a) = none := oneW_big (.inl (by omega))
        refine LR.gs rfl rfl rfl rfl rfl rfl ?_
        refine LR.gs rfl rfl rfl rfl rfl rfl ?_
        refine LR.gs rfl rfl rfl rfl rfl rfl ?_
        refine LR.gs rfl rfl rfl rfl rfl rfl ?_
        refine LR.gs rfl rfl rfl rfl rfl rfl ?_
        refine LR.v (Y.pick_t rfl rfl rfl) (Wd.u rfl) rfl rfl ?_
        refine LR.nil ?_
        refine hK19 _ _ ?_
        refine CW.cond_t rfl ?_
        refine CW.exit (hE18 (.exit 0) nofun _ _ (hE12 (.exit 0) nofun (by simp) _ _ (hE11 (.exit 0) nofun _ _ (hX10 _ _ ?_))))
        refine hK9 _ _ ?_
        refine CW.seq (fun K20 hK20 hE20 => ?_)
        refine CW.region ?_
        refine LR.v (Y.move rfl rfl) (Wd.u rfl) rfl rfl ?_
        refine LR.v (Y.move rfl rfl) (Wd.u rfl) rfl rfl ?_
        refine LR.v (Y.assign rfl rfl) (Wd.u rfl) rfl rfl ?_
        refine LR.v (Y.assign rfl rfl) (Wd.u rfl) rfl rfl ?_
        refine LR.v (Y.assign rfl rfl) (Wd.u rfl) rfl rfl ?_
        refine LR.nil ?_
        refine hK20 _ _ ?_
        refine CW.ret (hE2 .ret nofun nofun _ _ (hret .ret (.inr rfl) _ _ _ (res3 rfl rfl rfl rfl) ?_))
        obtain ⟨q1, q2⟩ := hps.stop hno
        obtain ⟨so, rfl⟩ : ∃ s : SV, vo = s.v := ⟨toSV vo, ow.sv.symm⟩
        exact ⟨so, l, by rw [hps.e, ← q2]; rfl, q1, (ow.rd.imp (fun c _ e => by have h9 := (nx4); unfold Nx at h9; omega)), (fun x h => (hxa x h).imp (fun c _ e => hG c e)), hm0⟩
      ·
        refine LR.v (Y.move rfl rfl) (Wd.g rfl rfl rfl) rfl rfl ?_
        refine LR.v (Y.len rd17 rfl Tryz.runUnderlying34 rfl) (Wd.g rfl rfl rfl) rfl rfl ?_
        refine LR.v (Y.subi rfl rfl rfl (by omega)) (Wd.g rfl rfl rfl) rfl rfl ?_
        refine LR.v (Y.move rfl rfl) (Wd.g rfl rfl rfl) rfl rfl ?_
        refine LR.v (Y.leq rfl rfl rfl) (Wd.g rfl rfl rfl) rfl rfl ?_
        refine LR.v (Y.pick_f rfl rfl rfl) (Wd.u rfl) rfl rfl ?_
        refine LR.nil ?_
        refine hK19 _ _ ?_
        refine CW.condp rfl (fun c51 => ?_) (fun c51 => ?_)
        ·
          have hno : oneW (recs l).length (b.drop a) = none := oneW_big (.inr (by omega))
          refine CW.exit (hE18 (.exit 0) nofun _ _ (hE12 (.exit 0) nofun (by simp) _ _ (hE11 (.exit 0) nofun _ _ (hX10 _ _ ?_))))
          refine hK9 _ _ ?_
          refine CW.seq (fun K21 hK21 hE21 => ?_)
          refine CW.region ?_
          refine LR.v (Y.move rfl rfl) (Wd.u rfl) rfl rfl ?_
          refine LR.v (Y.move rfl rfl) (Wd.u rfl) rfl rfl ?_
          refine LR.v (Y.assign rfl rfl) (Wd.u rfl) rfl rfl ?_
          refine LR.v (Y.assign rfl rfl) (Wd.u rfl) rfl rfl ?_
          refine LR.v (Y.assign rfl rfl) (Wd.u rfl) rfl rfl ?_
          refine LR.nil ?_
          refine hK21 _ _ ?_
          refine CW.ret (hE2 .ret nofun nofun _ _ (hret .ret (.inr rfl) _ _ _ (res3 rfl rfl rfl rfl) ?_))
          obtain ⟨q1, q2⟩ := hps.stop hno
          obtain ⟨so, rfl⟩ : ∃ s : SV, vo = s.v := ⟨toSV vo, ow.sv.symm⟩
          exact ⟨so, l, by rw [hps.e, ← q2]; rfl, q1, (ow.rd.imp (fun c _ e => by have h9 := (nx4); unfold Nx at h9; omega)), (fun x h => (hxa x h).imp (fun c _ e => hG c e)), hm0⟩
        ·
          have hrcl : (((b.drop a).drop 12).take (big (b.drop a))).length = big (b.drop a) := by rw [List.length_take, List.length_drop]; omega
          refine CW.skip ?_
          refine hK18 _ _ ?_
          refine CW.seq (fun K22 hK22 hE22 => ?_)
          refine CW.region ?_
          refine LR.v (Y.move rfl rfl) (Wd.u rfl) rfl rfl ?_
          refine LR.v (Y.move rfl rfl) (Wd.u rfl) rfl rfl ?_
          refine LR.v (Y.addi rfl rfl rfl (by omega)) (Wd.u rfl) rfl rfl ?_
          refine LR.e (g := fun v => v) (Y.slice rd17 (12) (12 + big (b.drop a)) rfl Tryz.runUnderlying34 Tryz.sizeOf5 rfl (.inr ⟨_, _, _, rfl, rfl, by first | rfl | omega⟩) (.inr ⟨_, _, _, rfl, rfl, by first | rfl | omega⟩) (by omega) (by omega)) (Wd.u rfl) rfl rfl (fun v55 rd55 => ?_)
          have bf_rd55 := bf_rd17
          rw [take_drop'] at rd55
          obtain ⟨s55, rfl⟩ : ∃ s : SV, v55 = s.v := ⟨toSV v55, rd55.sv.symm⟩
          refine LR.v (Y.assign rfl rfl) (Wd.u rfl) rfl rfl ?_
          refine LR.nil ?_
          refine hK22 _ _ ?_
          refine CW.seq (fun K23 hK23 hE23 => ?_)
          refine CW.seq (fun K24 hK24 hE24 => ?_)
          refine CW.region_any (fun Hq => Nw HL1 Hq) [] rfl ?_
          have hqs := Nw.refl HL1
          refine LH.take 0 (by kernel_rfl) rfl (by kernel_rfl) (by kernel_rfl) (by kernel_rfl) (fun Hq hq => Y.move rfl rfl) (Wd.u rfl) rfl rfl hqs ?_
          refine LH.take 1 (by kernel_rfl) rfl (by kernel_rfl) (by kernel_rfl) (by kernel_rfl) (fun Hq hq => Y.move rfl rfl) (Wd.u rfl) rfl rfl hqs ?_
          refine LH.take 2 (by kernel_rfl) rfl (by kernel_rfl) (by kernel_rfl) (by kernel_rfl) (fun Hq hq => Y.addi rfl rfl rfl (by omega)) (Wd.u rfl) rfl rfl hqs ?_
          refine LH.e (g := fun ad => .pointer (some ad)) 3 (by kernel_rfl) rfl (by kernel_rfl) (by kernel_rfl) (by kernel_rfl) (Y.indexAddrF rd17 (12 + big (b.drop a)) rfl Tryz.runUnderlying34 Tryz.sizeOf5 rfl rfl (by first | rfl | omega) (by first | omega | (simp; omega) | (simp; done))) (Wd.u rfl) rfl rfl hqs (fun ad59 pt59 => ?_)
          have bf_pt59 := bf_rd17
          refine LH.take 4 (by kernel_rfl) rfl (by kernel_rfl) (by kernel_rfl) (by kernel_rfl) (fun Hq hq => Y.load1 (pt59.pt.nw hq) rfl Tryz.isAgg5 rfl) (Wd.u rfl) rfl rfl hqs ?_
          refine LH.take 5 (by kernel_rfl) rfl (by kernel_rfl) (by kernel_rfl) (by kernel_rfl) (fun Hq hq => Y.neq rfl rfl rfl) (Wd.u rfl) rfl rfl hqs ?_
          refine LH.take 6 (by kernel_rfl) rfl (by kernel_rfl) (by kernel_rfl) (by kernel_rfl) (fun Hq hq => Y.move rfl rfl) (Wd.u rfl) rfl rfl hqs ?_
          refine LH.splitp (d := 62) rfl (fun g62 => ?_) (fun g62 => ?_)
          ·
            have hno : oneW (recs l).length (b.drop a) = none := oneW_mark (by rw [getD_at (by omega)]; exact u8_ne g62 (by decide))
            refine LH.gs 7 (by kernel_rfl) rfl (by kernel_rfl) (by kernel_rfl) (by kernel_rfl) rfl rfl rfl rfl rfl rfl hqs ?_
            refine LH.gs 8 (by kernel_rfl) rfl (by kernel_rfl) (by kernel_rfl) (by kernel_rfl) rfl rfl rfl rfl rfl rfl hqs ?_
            refine LH.gs 9 (by kernel_rfl) rfl (by kernel_rfl) (by kernel_rfl) (by kernel_rfl) rfl rfl rfl rfl rfl rfl hqs ?_
            refine LH.gs 10 (by kernel_rfl) rfl (by kernel_rfl) (by kernel_rfl) (by kernel_rfl) rfl rfl rfl rfl rfl rfl hqs ?_
            refine LH.gs 11 (by kernel_rfl) rfl (by kernel_rfl) (by kernel_rfl) (by kernel_rfl) rfl rfl rfl rfl rfl rfl hqs ?_
            refine LH.gs 12 (by kernel_rfl) rfl (by kernel_rfl) (by kernel_rfl) (by kernel_rfl) rfl rfl rfl rfl rfl rfl hqs ?_
            refine LH.gs 13 (by kernel_rfl) rfl (by kernel_rfl) (by kernel_rfl) (by kernel_rfl) rfl rfl rfl rfl rfl rfl hqs ?_
            refine LH.gs 14 (by kernel_rfl) rfl (by kernel_rfl) (by kernel_rfl) (by kernel_rfl) rfl rfl rfl rfl rfl rfl hqs ?_
            refine LH.take 15 (by kernel_rfl) rfl (by kernel_rfl) (by kernel_rfl) (by kernel_rfl) (fun Hq hq => Y.pick_t rfl rfl rfl) (Wd.u rfl) rfl rfl hqs ?_
            refine LH.done (by kernel_rfl) ?_
            have hqe := hqs
            refine hK24 _ _ ?_
            refine CW.cond_t rfl ?_
            refine CW.exit (hE23 (.exit 0) nofun _ _ (hE12 (.exit 0) nofun (by simp) _ _ (hE11 (.exit 0) nofun _ _ (hX10 _ _ ?_))))
            refine hK9 _ _ ?_
            refine CW.seq (fun K25 hK25 hE25 => ?_)
            refine CW.region ?_
            refine LR.v (Y.move rfl rfl) (Wd.u rfl) rfl rfl ?_
            refine LR.v (Y.move rfl rfl) (Wd.u rfl) rfl rfl ?_
            refine LR.v (Y.assign rfl rfl) (Wd.u rfl) rfl rfl ?_
            refine LR.v (Y.assign rfl rfl) (Wd.u rfl) rfl rfl ?_
            refine LR.v (Y.assign rfl rfl) (Wd.u rfl) rfl rfl ?_
            refine LR.nil ?_
            refine hK25 _ _ ?_
            refine CW.ret (hE2 .ret nofun nofun _ _ (hret .ret (.inr rfl) _ _ _ (res3 rfl rfl rfl rfl) ?_))
            obtain ⟨q1, q2⟩ := hps.stop hno
            obtain ⟨so, rfl⟩ : ∃ s : SV, vo = s.v := ⟨toSV vo, ow.sv.symm⟩
            exact ⟨so, l, by rw [hps.e, ← q2]; rfl, q1, (ow.rd.imp (fun c _ e => by have h9 := (nx4); unfold Nx at h9; omega)), (fun x h => (hxa x h).imp (fun c _ e => hG c e)), hm0⟩
          ·
            have hmk : (b.drop a).getD (12 + big (b.drop a)) 0 = 67 := by rw [getD_at (by omega)]; exact u8_eq (Decidable.byContradiction g62) (by decide)
            refine LH.take 7 (by kernel_rfl) rfl (by kernel_rfl) (by kernel_rfl) (by kernel_rfl) (fun Hq hq => Y.move rfl rfl) (Wd.g rfl rfl rfl) rfl rfl hqs ?_
            refine LH.e (g := fun v => v) 8 (by kernel_rfl) rfl (by kernel_rfl) (by kernel_rfl) (by kernel_rfl) (Y.slice rd17 (4) (12) rfl Tryz.runUnderlying34 Tryz.sizeOf5 rfl (.inr ⟨_, _, _, rfl, rfl, by first | rfl | omega⟩) (.inr ⟨_, _, _, rfl, rfl, by first | rfl | omega⟩) (by omega) (by omega)) (Wd.g rfl rfl rfl) rfl rfl hqs (fun v64 rd64 => ?_)
            have bf_rd64 := bf_rd17
            rw [show (12 : Nat) = 4 + 8 from rfl, take_drop'] at rd64
            obtain ⟨s64, rfl⟩ : ∃ s : SV, v64 = s.v := ⟨toSV v64, rd64.sv.symm⟩
            refine LH.take 9 (by kernel_rfl) rfl (by kernel_rfl) (by kernel_rfl) (by kernel_rfl) (fun Hq hq => Y.move rfl rfl) (Wd.g rfl rfl rfl) rfl rfl hqs ?_
            refine LH.take 10 (by kernel_rfl) rfl (by kernel_rfl) (by kernel_rfl) (by kernel_rfl) (fun Hq hq => Y.cast (v2 := .int .i64 (l.length : Int)) (Y.len (ow.rd.nw hq) rfl Tryz.runUnderlying22 rfl) (rfl)) (Wd.g rfl rfl rfl) rfl rfl hqs ?_
            refine LH.take 11 (by kernel_rfl) rfl (by kernel_rfl) (by kernel_rfl) (by kernel_rfl) (fun Hq hq => Y.move rfl rfl) (Wd.g rfl rfl rfl) rfl rfl hqs ?_
            refine LH.one (i := 12) (by kernel_rfl) ?_
            -- call selvage/wal.check
            refine LO.call rfl rfl Tryz.call72 rfl (Wd.g rfl rfl rfl) rfl rfl (check_ct l.length s55 (((b.drop a).drop 12).take (big (b.drop a))) w0 _ rd55.any (by omega)) (fun v68 H68 r68 => ?_)
            obtain ⟨t68, rfl, hw68, hs68⟩ := r68
            replace hb := hb.nw hs68
            replace ow := ow.nw hs68
            replace hxa := fun x hxa_ => (hxa x hxa_).nw hs68
            replace rd17 := rd17.nw hs68
            replace rd55 := rd55.nw hs68
            replace pt59 := pt59.nw hs68
            replace rd64 := rd64.nw hs68
            replace hm0 := hm0.tr hs68
            replace hlm1 := hlm1.tr hs68
            have hz5 := hs68.size
            replace hw68 := hw68.bnd
            have bf_hw68 := hw68.bf
            have df6 : DF (fun b => HL1.size ≤ b ∧ b < H68.size) ko := DF.above (fun b h => h.1) (by first | exact hle_ow | exact hlt_ow | omega)
            have hq68 := hqs.tr hs68
            refine ⟨.inr hq68, LH.narrow (SH2 := fun Hq => Nw H68 Hq) (fun Hq hq => hq68.tr hq) ?_⟩
            have hqn68 := Nw.refl H68
            refine LH.one (i := 13) (by kernel_rfl) ?_
            -- call bytes.Equal
            refine LO.call rfl rfl Tryz.call71 rfl (Wd.g rfl rfl rfl) rfl rfl (equal_ct s64 t68 _ _ w0 _ rd64.any hw68.any) (fun v69 H69 r69 => ?_)
            obtain ⟨rfl, hs69⟩ := r69
            replace hb := hb.nw hs69
            replace ow := ow.nw hs69
            replace hxa := fun x hxa_ => (hxa x hxa_).nw hs69
            replace rd17 := rd17.nw hs69
            replace rd55 := rd55.nw hs69
            replace pt59 := pt59.nw hs69
            replace rd64 := rd64.nw hs69
            replace hw68 := hw68.nw hs69
            replace hm0 := hm0.tr hs69
            replace hlm1 := hlm1.tr hs69
            have hz6 := hs69.size
            have hq69 := hqn68.tr hs69
            refine ⟨.inr hq69, LH.narrow (SH2 := fun Hq => Nw H69 Hq) (fun Hq hq => hq69.tr hq) ?_⟩
            have hqn69 := Nw.refl H69
            refine LH.take 14 (by kernel_rfl) rfl (by kernel_rfl) (by kernel_rfl) (by kernel_rfl) (fun Hq hq => Y.notp rfl rfl) (Wd.g rfl rfl rfl) rfl rfl hqn69 ?_
            refine LH.take 15 (by kernel_rfl) rfl (by kernel_rfl) (by kernel_rfl) (by kernel_rfl) (fun Hq hq => Y.pick_f rfl rfl rfl) (Wd.u rfl) rfl rfl hqn69 ?_
            refine LH.done (by kernel_rfl) ?_
            have hqe := hqn69
            refine hK24 _ _ ?_
            refine CW.condp rfl (fun c71 => ?_) (fun c71 => ?_)
            ·
              have hno : oneW (recs l).length (b.drop a) = none := by rw [hln]; exact oneW_chk c71
              refine CW.exit (hE23 (.exit 0) nofun _ _ (hE12 (.exit 0) nofun (by simp) _ _ (hE11 (.exit 0) nofun _ _ (hX10 _ _ ?_))))
              refine hK9 _ _ ?_
              refine CW.seq (fun K26 hK26 hE26 => ?_)
              refine CW.region ?_
              refine LR.v (Y.move rfl rfl) (Wd.u rfl) rfl rfl ?_
              refine LR.v (Y.move rfl rfl) (Wd.u rfl) rfl rfl ?_
              refine LR.v (Y.assign rfl rfl) (Wd.u rfl) rfl rfl ?_
              refine LR.v (Y.assign rfl rfl) (Wd.u rfl) rfl rfl ?_
              refine LR.v (Y.assign rfl rfl) (Wd.u rfl) rfl rfl ?_
              refine LR.nil ?_
              refine hK26 _ _ ?_
              refine CW.ret (hE2 .ret nofun nofun _ _ (hret .ret (.inr rfl) _ _ _ (res3 rfl rfl rfl rfl) ?_))
              obtain ⟨q1, q2⟩ := hps.stop hno
              obtain ⟨so, rfl⟩ : ∃ s : SV, vo = s.v := ⟨toSV vo, ow.sv.symm⟩
              exact ⟨so, l, by rw [hps.e, ← q2]; rfl, q1, (ow.rd.imp (fun c _ e => by have h9 := (nx4); unfold Nx at h9; omega)), (fun x h => (hxa x h).imp (fun c _ e => hG c e)), hm0⟩
            ·
              have hyes : oneW (recs l).length (b.drop a) = some (((b.drop a).drop 12).take (big (b.drop a))) := by rw [hln]; exact oneW_yes (by omega) (by omega) (by omega) hmk (Decidable.byContradiction (fun h => c71 h))
              refine CW.skip ?_
              refine hK23 _ _ ?_
              refine CW.seq (fun K27 hK27 hE27 => ?_)
              refine CW.region ?_
              refine LR.v (Y.move rfl rfl) (Wd.u rfl) rfl rfl ?_
              refine LR.v (Y.move rfl rfl) (Wd.u rfl) rfl rfl ?_
              -- call slices.Clone[[]byte,byte]
              refine LR.call rfl Tryz.call64 rfl (Wd.u rfl) rfl rfl (bclone_ct _ (((b.drop a).drop 12).take (big (b.drop a))) w0 _ rd55.any (by omega)) (fun v74 H74 r74 => ?_)
              obtain ⟨s74, k74, rfl, nd, hk74, hs74⟩ := r74
              have df7 := DF.app (DF.z) (bf_hb.mono hm0.size) hk74
              have dj8 : Dj ko k74 := Dj.app (Dj.z) ow.le hk74
              have df9 := DF.app (DF.z) (bf_hxa.mono (by omega)) hk74
              have df10 := DF.app (DF.z) (bf_rd55.mono hm0.size) hk74
              have nx11 : Nx 0 H0.size k74 := Nx.tr (Nx.refl 0 _) hk74 hm0.size
              have nx12 : Nx 0 H13.size k74 := Nx.tr (Nx.refl 0 _) hk74 hlm1.size
              replace hb := hb.nw hs74
              replace ow := ow.nw hs74
              replace hxa := fun x hxa_ => (hxa x hxa_).nw hs74
              replace rd55 := rd55.nw hs74
              replace hm0 := hm0.tr hs74
              replace hlm1 := hlm1.tr hs74
              have hz7 := hs74.size
              have hle_nd := nd.le
              refine LR.z (Z.litw _ ([(s74, ((b.drop a).drop 12).take (big (b.drop a)))]) rfl inf22 rfl rfl rfl (by decide) (by decide) fP_len fP_one (rfl)) (Wd.u rfl) rfl rfl (fun v75 H75 r75 => ?_)
              obtain ⟨nw75, hs75, ob75, hH75⟩ := r75
              have hzs75 : H75.size = H74.size + 1 := by rw [hH75]; simp
              have df13 := (DF.new (bf_hb.mono hm0.size) : DF _ (H74.size + 1))
              have dj14 : Dj ko (H74.size + 1) := Dj.new ow.le
              have df15 := (DF.new (bf_hxa.mono (by omega)) : DF _ (H74.size + 1))
              have df16 := (DF.new (bf_rd55.mono hm0.size) : DF _ (H74.size + 1))
              have dj17 : Dj k74 (H74.size + 1) := Dj.new nd.le
              have nx18 : Nx 0 H0.size (H74.size + 1) := Nx.new hm0.size
              have nx19 : Nx 0 H13.size (H74.size + 1) := Nx.new hlm1.size
              replace hb := hb.nw hs75
              replace ow := ow.nw hs75
              replace hxa := fun x hxa_ => (hxa x hxa_).nw hs75
              replace rd55 := rd55.nw hs75
              replace nd := nd.nw hs75
              replace hm0 := hm0.tr hs75
              replace hlm1 := hlm1.tr hs75
              have hz8 := hs75.size
              refine LR.z (Z.apnd ow nw75.rd rfl inf22 rfl rfl (by simp only [List.length_singleton]; omega) (by simp only [List.length_singleton]; omega)) (Wd.u rfl) rfl rfl (fun v76 H76 r76 => ?_)
              obtain ⟨k76, ow, hk76, hs76⟩ := r76
              replace hk76 : Nx ko H75.size k76 := hk76
              replace hs76 := hs76.md
              have df20 := DF.app (df3) (bf_hb.mono hm0.size) hk76
              have df21 := DF.app (f1) (bf_hxa.mono (by omega)) hk76
              have df22 := DF.app (df3) (bf_rd55.mono hm0.size) hk76
              have dj23 : Dj k74 k76 := Dj.app (dj8.symm) nd.le hk76
              have dj24 : Dj (H74.size + 1) k76 := Dj.app (dj14.symm) nw75.le hk76
              have nx25 : Nx 0 H0.size k76 := Nx.tr (nx4) hk76 hm0.size
              have nx26 : Nx 0 H13.size k76 := Nx.tr (nx5) hk76 hlm1.size
              replace hb := hb.upL hs76 (DFL.cons df3 DFL.nil)
              replace hxa := fun x hxa_ => (hxa x hxa_).upL hs76 (DFL.cons f1 DFL.nil)
              replace rd55 := rd55.upL hs76 (DFL.cons df3 DFL.nil)
              replace nd := nd.upL hs76 (DL.cons dj8.symm DL.nil)
              replace nw75 := nw75.upL hs76 (DL.cons dj14.symm DL.nil)
              replace hm0 := (Mo.trL (ks := []) (hm0.mdn []) hs76 (MIL.cons (MI.app MI.z (nx4) (Nat.le_refl _)) MIL.nil)).nil
              replace hlm1 := (Mo.trL (ks := []) (hlm1.mdn []) hs76 (MIL.cons (MI.app MI.z (nx5) (Nat.le_refl _)) MIL.nil)).nil
              have hz9 := hs76.size
              have hle_ow := ow.le
              refine LR.v (Y.assign rfl rfl) (Wd.u rfl) rfl rfl ?_
              refine LR.nil ?_
              refine hK27 _ _ ?_
              refine CW.region ?_
              refine LR.v (Y.move rfl rfl) (Wd.u rfl) rfl rfl ?_
              refine LR.v (Y.move rfl rfl) (Wd.u rfl) rfl rfl ?_
              refine LR.v (Y.addi rfl rfl rfl (by omega)) (Wd.u rfl) rfl rfl ?_
              refine LR.v (Y.addi rfl rfl rfl (by omega)) (Wd.u rfl) rfl rfl ?_
              refine LR.v (Y.cast (v2 := .int .i64 ((a + (13 + (((b.drop a).drop 12).take (big (b.drop a))).length) : Nat) : Int)) (Y.addi rfl rfl rfl (by omega)) (ivv (by omega))) (Wd.u rfl) rfl rfl ?_
              refine LR.v (Y.assign rfl rfl) (Wd.u rfl) rfl rfl ?_
              refine LR.nil ?_
              refine hK12 _ _ ?_
              refine QN.sub (hN11 (a + (13 + (((b.drop a).drop 12).take (big (b.drop a))).length), v76, k76, l ++ [(s74, ((b.drop a).drop 12).take (big (b.drop a)))], fun c => G c ∨ c + 1 = k74) _ ?_ ?_) ⟨rfl, rfl, (iv (by omega)), trivial⟩
              · exact ⟨by unfold recs; rw [List.map_append]; exact hps.step hyes, ow, snocP (α := Unit) (fb := fun _ => (s74, [])) hxa (fun c e => .inl e) (nd.rd.imp (fun c _ e => .inr e)), BF.or1 (bf_hxa.mono (by omega)) nd.le, DF.or1 (df21) (dj23.symm), fun c e => by rcases e with e | e; exact hG c e; exact (by have h9 := (nx11); unfold Nx at h9; omega), nx26, hlm1⟩
              · show b.length - (a + (13 + _)) < b.length - a; omega

theorem count_ct (lb : Nat) (v p : Value) (n : Int) (br : Bool) (w0 : World) (H0 : Heap)
    (hv : Var 76 H0 lb [v, p, .int .i64 n, .bool br]) :
    Ct Tryz.prog w0 11 #[.pointer (some ⟨lb, 0, none⟩)] H0 (fun r H2 => r = .int .i64 n ∧ Nw H0 H2) := by
  refine Ct.enter (args := [.pointer (some ⟨lb, 0, none⟩)]) Tryz.func11 rfl rfl rfl ?_
  intro Q0 hret
  have hm0 : Nw H0 H0 := Mo.refl _ _
  have nx_hm0_hv := Nx.refl (lb + 1) H0.size
  have hlt_hv := hv.lt
  refine CW.seq (fun K1 hK1 hE1 => ?_)
  refine CW.region ?_
  refine LR.v (Y.assign rfl rfl) (Wd.u rfl) rfl rfl ?_
  refine LR.nil ?_
  refine hK1 _ _ ?_
  refine CW.seq (fun K2 hK2 hE2 => ?_)
  refine CW.region ?_
  refine LR.v (Y.move rfl rfl) (Wd.u rfl) rfl rfl ?_
  refine LR.v (Y.nilCheck rfl rfl) (Wd.u rfl) rfl rfl ?_
  refine LR.v (Y.fieldAddr hv.pt rfl Tryz.runUnderlying76 rfl rfl Tryz.sizeOf3 (by decide) rfl) (Wd.u rfl) rfl rfl ?_
  refine LR.v (Y.load1 (hv.pt.drop 2) rfl Tryz.isAgg3 rfl) (Wd.u rfl) rfl rfl ?_
  refine LR.v (Y.assign rfl rfl) (Wd.u rfl) rfl rfl ?_
  refine LR.nil ?_
  refine hK2 _ _ ?_
  refine CW.ret (hret .ret (.inr rfl) _ _ _ (res1 rfl rfl) ?_)
  exact ⟨rfl, hm0⟩

end Go.Proofs.YtdliddjkacbggaaGreatDoor.WalC
/-
  Numbers that are read and raised at once: no condition.
-/
namespace Go.Proofs.YtdliddjkacbggaaGreatDoor.E
set_option linter.unusedVariables false
set_option linter.unusedSimpArgs false
section
variable {P : Program} {w0 : World} {n : Nat} {l : FL} {H : Heap} {o : Oper}
theorem Z.ext {f : FuncId} {fn : Func} {e : Array Value → Sem Value} {args : List Operand} {ats : Array TypeId} {vs : List Value} {R : Value → Heap → Prop} (ho : o.op = .call { callee := .value (.func f), args := args.toArray, argTypes := ats }) (hf : P.funcs[f]? = some fn)
    (hname : (fn.name == "runtime.NumGoroutine") = false) (hb : fn.body.isNone = true) (hn : Extern.findNext fn = none) (he : Extern.find fn = some e) (hv : opvs l args = some vs) (hr : ∀ w, At w0 H w → ∃ v H' w', (e vs.toArray).run P w = .ok v w' ∧ At w0 H' w' ∧ R v H') : Z P w0 n l H o R := by
  intro a w hfr ha
  have h1 : a.eval (.func f) = .func (.func f) #[] #[] := rfl
  have h2 := hfr.evals hv
  have h3 := run_callFunc_extern (P := P) hf hname hb hn he vs.toArray w
  obtain ⟨v, H', w', q1, q2, q3⟩ := hr w ha
  rw [q1] at h3
  simp only [Result.andThen] at h3
  exact ⟨v, H', w', by simp [execOp, ho, resolve, Deferred.ofValue, h1, invoke, h2, h3], q2, q3⟩
theorem Var.cell {e : TypeId} {b : Nat} {cs : List Value} (h : Var e H b cs) {w : World} (ha : At w0 H w) {i : Nat} {c : Value} (hc : cs[i]? = some c) : w.cell? ⟨b, i, none⟩ = some c ∧ w.frozen? ⟨b, i, none⟩ = false ∧ ∃ fz, w.heap[b]? = some (.cells cs.toArray e fz) := by
  obtain ⟨fz, h1, h2⟩ := id h.row
  have hi := (List.getElem?_eq_some_iff.1 hc).1
  have h1' : w.heap[b]? = some (.cells cs.toArray e fz) := by rw [ha.heap]; exact h1
  refine ⟨by simp [World.cell?, h1', hc], ?_, fz, h1'⟩
  obtain ⟨lo, hi'⟩ := fz
  have := h2.2 i (by simpa using hi)
  simp only at this
  simp [World.frozen?, h1']; omega
theorem Z.add64 {f : FuncId} {fn : Func} {args : List Operand} {ats : Array TypeId} {e : TypeId} {b i : Nat} {cs : List Value} {x y : Int} (h : Var e H b cs) (hc : cs[i]? = some (.int .i64 x)) (ho : o.op = .call { callee := .value (.func f), args := args.toArray, argTypes := ats }) (hf : P.funcs[f]? = some fn)
    (hname : (fn.name == "runtime.NumGoroutine") = false) (hb : fn.body.isNone = true) (hn : Extern.findNext fn = none) (he : Extern.find fn = some (Extern.Atomic.update (Op.intArith .add) .i64 true)) (hv : opvs l args = some [.pointer (some ⟨b, i, none⟩), .int .i64 y]) (hxy : -9223372036854775808 ≤ x + y ∧ x + y ≤ 9223372036854775807) :
    Z P w0 n l H o (fun r H' => r = .int .i64 (x + y) ∧ Var e H' b (cs.set i (.int .i64 (x + y))) ∧ Mo (fun c => c = b) H H') := by
  refine Z.ext ho hf hname hb hn he hv (fun w ha => ?_)
  obtain ⟨h1, h2, fz, h3⟩ := h.cell ha hc
  have hw : IntKind.i64.wrap (x + y) = x + y := by rw [IntKind.wrap_i64]; omega
  have hi := (List.getElem?_eq_some_iff.1 hc).1
  refine ⟨.int .i64 (x + y), _, w.setRow b (cs.toArray.setIfInBounds i (.int .i64 (x + y))), ?_, ha.row _ _, rfl, ?_, setRow_mo ha _ _⟩
  · have hs : (store ⟨b, i, none⟩ (.int .i64 (x + y)) .atomic).run P w = .ok () (w.setRow b (cs.toArray.setIfInBounds i (.int .i64 (x + y)))) := by
      rw [Go.run_store P w _ _ _ rfl, h1]
      simp only [h2, Bool.false_eq_true, if_false]
      rw [setCell_eq_setRow w b i cs.toArray e fz _ h3]
    have e1 : Extern.Atomic.update (Op.intArith .add) .i64 true #[.pointer (some ⟨b, i, none⟩), .int .i64 y] = (asAddr (.pointer (some ⟨b, i, none⟩)) >>= fun a => Extern.Atomic.read (.int .i64) a >>= fun old => asInt old >>= fun p => asInt (.int .i64 y) >>= fun q => Op.intArith .add .i64 p q >>= fun new => store a new .atomic >>= fun _ => pure (if true then new else old)) := rfl
    show (Extern.Atomic.update (Op.intArith .add) .i64 true #[.pointer (some ⟨b, i, none⟩), .int .i64 y]).run P w = _
    rw [e1]
    simp [Extern.Atomic.read, asAddr, h1, asInt, asIntOf, Op.intArith, hw, hs]
  · have := setRow_row ha h.row (c := cs.toArray.setIfInBounds i (.int .i64 (x + y))) (by simp)
    exact ⟨by simpa using this⟩
end
end Go.Proofs.YtdliddjkacbggaaGreatDoor.E
/-
  How a disk lies in memory: which block is what, and what each holds.
-/
namespace Go.Proofs.YtdliddjkacbggaaGreatDoor.SimC
open Go.Proofs.YtdliddjkacbggaaGreatDoor.E Go.RowKit Go.Proofs.YtdliddjkacbggaaGreatDoor.SimA Go.Proofs.YtdliddjkacbggaaGreatDoor.SimB
set_option maxRecDepth 20000
set_option linter.unusedVariables false
set_option linter.unusedSimpArgs false
set_option linter.unusedSectionVars false

inductive Role | out | fs | dirs | dir (p : Pth) | now (p : Pth) | sty (p : Pth) | chg (p : Pth) | fil (i : Nat) | wrs (i : Nat) | frz
abbrev ptr (b : Nat) : Value := .pointer (some ⟨b, 0, none⟩)
/-- the file with the number i -/
abbrev fvl (fb : List Nat) (i : Nat) : Value := ptr (fb.getD i 0)
/-- where a file lies, if there is one -/
abbrev fpt (fb : List Nat) (o : Option Nat) : Option Addr := o.map (fun i => ⟨fb.getD i 0, 0, none⟩)
abbrev fC (fb : List Nat) (c : Chg) : List Value := [Str c.g, Str c.n, .pointer (fpt fb c.f)]
theorem fC_len (fb : List Nat) (c : Chg) : (fC fb c).length = 3 := rfl
theorem fC_one (fb : List Nat) (c : Chg) : ∀ u ∈ fC fb c, u.oneCell' = true := by
  intro u hu; simp only [List.mem_cons, List.not_mem_nil, or_false] at hu
  rcases hu with rfl | rfl | rfl <;> rfl
theorem own_congr {α : Type} {G : Nat → Prop} {e : TypeId} {H : Heap} {f g : α → List Value} {sz : Nat} {v : Value} {l : List α} (h : Own G e H f sz v l) (hc : ∀ x, (g x).length = sz) (h1 : ∀ x, ∀ u ∈ g x, u.oneCell' = true) (hfg : ∀ x ∈ l, f x = g x) : Own G e H g sz v l := by
  refine ⟨hc, h1, ?_⟩
  rcases h.ex with h | ⟨b, cap, cur, e1, e2, e3, e4, e5, e6, e7⟩
  · exact .inl h
  · refine .inr ⟨b, cap, cur, e1, e2, e3, e4, e5, e6, ?_⟩
    rw [e7, List.flatMap_def, List.flatMap_def, List.map_congr_left hfg]
theorem ow_congr {α : Type} {k : Nat} {e : TypeId} {H : Heap} {f g : α → List Value} {sz : Nat} {v : Value} {l : List α} (h : Ow k e H f sz v l) (hc : ∀ x, (g x).length = sz) (h1 : ∀ x, ∀ u ∈ g x, u.oneCell' = true) (hfg : ∀ x ∈ l, f x = g x) : Ow k e H g sz v l := ⟨own_congr h.own hc h1 hfg, h.le⟩
theorem mp_congr {κ β : Type} {H : Heap} {fk : κ → Value} {f g : β → Value} {b : Nat} {m : List (κ × β)} (h : Mp H fk f b m) (hfg : ∀ x ∈ m, f x.2 = g x.2) : Mp H fk g b m := by
  obtain ⟨r, es, clock, h1, h2, h3, h4, h5⟩ := h.mo.ex
  exact ⟨⟨r, es, clock, h1, h2, h3, h4, by rw [h5]; exact List.map_congr_left (fun x hx => by rw [hfg x hx])⟩⟩
section
variable {ρ ρ' : Nat → Role} {fb : List Nat} {H H' : Heap} {D D' : Dk} {p : Pth} {db nb sb k i b : Nat} {sv nv wv : SV} {nm sm : Nms} {x : Fdt} {l : List Wx} {S : Nat → Prop}
/-- a directory -/
structure DirO (ρ : Nat → Role) (fb : List Nat) (H : Heap) (D : Dk) (p : Pth) (db nb sb k : Nat) (sv : SV) (nm sm : Nms) : Prop where
  rd : ρ db = .dir p
  vd : Var 99 H db [.map (some nb), .map (some sb), sv.v]
  rn : ρ nb = .now p
  hn : Mp H Str (fvl fb) nb nm
  rs : ρ sb = .sty p
  hs : Mp H Str (fvl fb) sb sm
  en : ∀ q, mget nm q = if dirP q = p then mget D.now q else none
  es : ∀ q, mget sm q = if dirP q = p then mget D.stays q else none
  hc : Ow k 103 H (fC fb) 3 sv.v (D.chgs p)
  rc : ∀ c, c + 1 = k → ρ c = .chg p
/-- a file -/
structure FilO (ρ : Nat → Role) (H : Heap) (i b : Nat) (x : Fdt) (nv sv wv : SV) (k : Nat) (l : List Wx) : Prop where
  rf : ρ b = .fil i
  vf : Var 112 H b [nv.v, sv.v, wv.v]
  hn : Rd (fun c => ρ c = .frz) H fB 1 nv.v x.now
  hs : Rd (fun c => ρ c = .frz) H fB 1 sv.v x.stays
  hw : Ow k 149 H fW 2 wv.v l
  lw : l.map (·.1) = x.w
  hd : ∀ y ∈ l, Rd (fun c => ρ c = .frz) H fB 1 y.2.v y.1.d
  rk : ∀ c, c + 1 = k → ρ c = .wrs i
/-- what had a part has it still -/
def Ext (ρ ρ' : Nat → Role) : Prop := ∀ c, ρ c ≠ .out → ρ' c = ρ c
theorem Ext.refl (ρ : Nat → Role) : Ext ρ ρ := fun _ _ => rfl
theorem Ext.of (h : Ext ρ ρ') {c : Nat} {r : Role} (e : ρ c = r) (hr : r ≠ .out) : ρ' c = r := by rw [h c (by rw [e]; exact hr)]; exact e
theorem rd_frz {α : Type} {f : α → List Value} {sz : Nat} {v : Value} {l : List α} (h : Rd (fun c => ρ c = .frz) H f sz v l) (hx : Ext ρ ρ') (s : Mo S H H') (hS : ∀ c, S c → ρ c ≠ .frz) : Rd (fun c => ρ' c = .frz) H' f sz v l :=
  (h.up s (fun b _ e hs => hS b hs e)).imp (fun b _ e => hx.of e (by simp))
theorem DirO.tr (h : DirO ρ fb H D p db nb sb k sv nm sm) (hx : Ext ρ ρ') (s : Mo S H H') (hS : ∀ c, S c → ρ c ≠ .dir p ∧ ρ c ≠ .now p ∧ ρ c ≠ .sty p ∧ ρ c ≠ .chg p)
    (hn : ∀ q, dirP q = p → mget D'.now q = mget D.now q) (hs : ∀ q, dirP q = p → mget D'.stays q = mget D.stays q) (hc : D'.chgs p = D.chgs p) : DirO ρ' fb H' D' p db nb sb k sv nm sm where
  rd := hx.of h.rd (by simp)
  vd := h.vd.up s (fun e => (hS _ e).1 h.rd)
  rn := hx.of h.rn (by simp)
  hn := h.hn.up s (fun e => (hS _ e).2.1 h.rn)
  rs := hx.of h.rs (by simp)
  hs := h.hs.up s (fun e => (hS _ e).2.2.1 h.rs)
  en := fun q => by rw [h.en]; split
                    · rename_i e; rw [hn q e]
                    · rfl
  es := fun q => by rw [h.es]; split
                    · rename_i e; rw [hs q e]
                    · rfl
  hc := by rw [hc]; exact h.hc.up s (fun b _ e hb => (hS b hb).2.2.2 (h.rc b e))
  rc := fun c e => hx.of (h.rc c e) (by simp)
theorem FilO.tr (h : FilO ρ H i b x nv sv wv k l) (hx : Ext ρ ρ') (s : Mo S H H') (hS : ∀ c, S c → ρ c ≠ .fil i ∧ ρ c ≠ .wrs i ∧ ρ c ≠ .frz) : FilO ρ' H' i b x nv sv wv k l where
  rf := hx.of h.rf (by simp)
  vf := h.vf.up s (fun e => (hS _ e).1 h.rf)
  hn := rd_frz h.hn hx s (fun c e => (hS c e).2.2)
  hs := rd_frz h.hs hx s (fun c e => (hS c e).2.2)
  hw := h.hw.up s (fun b _ e hb => (hS b hb).2.1 (h.rk b e))
  lw := h.lw
  hd := fun y hy => rd_frz (h.hd y hy) hx s (fun c e => (hS c e).2.2)
  rk := fun c e => hx.of (h.rk c e) (by simp)
/-- what the disk's blocks are -/
structure Gh where
  ρ : Nat → Role
  fb : List Nat
  mb : Nat
  dm : List (Pth × Nat)
  lv : Nat
structure PDk (K : List Nat) (g : Gh) (H : Heap) (b : Nat) (D : Dk) : Prop where
  hK : ∀ c, c + 1 ∈ K ↔ g.ρ c ≠ .out
  lt : ∀ c, g.ρ c ≠ .out → c < H.size
  rb : g.ρ b = .fs
  vb : Var 73 H b [.int .i64 D.cap, .int .i64 D.most, .map (some g.mb), .int .i64 D.ops, .int .i64 g.lv, .bool D.dead]
  lvD : D.dead = false → g.lv = D.left
  lvB : g.lv ≤ 9223372036854775807
  capB : D.cap ≤ 9223372036854775807
  mostB : D.most ≤ 9223372036854775807
  rm : g.ρ g.mb = .dirs
  hm : Mp H Str ptr g.mb g.dm
  dirs : ∀ p db, mget g.dm p = some db → ∃ nb sb k sv nm sm, DirO g.ρ g.fb H D p db nb sb k sv nm sm
  abs : ∀ p, mget g.dm p = none → (∀ q, dirP q = p → mget D.now q = none ∧ mget D.stays q = none) ∧ D.chgs p = []
  len : g.fb.length = D.fs.length
  fil : ∀ i, i < D.fs.length → ∃ nv sv wv k l, FilO g.ρ H i (g.fb.getD i 0) (fget D.fs i) nv sv wv k l
  ids : (∀ p i, mget D.now p = some i → i < D.fs.length) ∧ (∀ p i, mget D.stays p = some i → i < D.fs.length) ∧ (∀ c ∈ D.log, ∀ i, c.f = some i → i < D.fs.length)
  dml : g.dm.length ≤ D.ops
variable {K K' : List Nat} {g : Gh} {ks : List Nat}
theorem PDk.bk (h : PDk K g H b D) : BK K H.size := fun k hk => by
  rcases Nat.eq_zero_or_pos k with e | this
  · omega
  · have h2 := h.lt (k - 1) ((h.hK (k - 1)).1 (by rw [Nat.sub_add_cancel this]; exact hk))
    omega
theorem PDk.up (h : PDk K g H b D) (s : Mo S H H') (hS : ∀ c, S c → g.ρ c = .out) : PDk K g H' b D where
  hK := h.hK
  lt := fun c e => Nat.lt_of_lt_of_le (h.lt c e) s.size
  rb := h.rb
  vb := h.vb.up s (fun e => by have := hS _ e; rw [h.rb] at this; cases this)
  lvD := h.lvD
  lvB := h.lvB
  capB := h.capB
  mostB := h.mostB
  rm := h.rm
  hm := h.hm.up s (fun e => by have := hS _ e; rw [h.rm] at this; cases this)
  dirs := fun p db e => by
    obtain ⟨nb, sb, k, sv, nm, sm, hd⟩ := h.dirs p db e
    exact ⟨nb, sb, k, sv, nm, sm, hd.tr (Ext.refl _) s (fun c hc => by rw [hS c hc]; simp) (fun _ _ => rfl) (fun _ _ => rfl) rfl⟩
  abs := h.abs
  len := h.len
  fil := fun i hi => by
    obtain ⟨nv, sv, wv, k, l, hf⟩ := h.fil i hi
    exact ⟨nv, sv, wv, k, l, hf.tr (Ext.refl _) s (fun c hc => by rw [hS c hc]; simp)⟩
  ids := h.ids
  dml := h.dml
theorem PDk.nw (h : PDk K g H b D) (s : Nw H H') : PDk K g H' b D := h.up s (fun c e => e.elim)
theorem PDk.role (h : PDk K g H b D) {c : Nat} (hc : c + 1 ∉ K) : g.ρ c = .out := Classical.byContradiction (fun e => hc ((h.hK c).2 e))
theorem PDk.upL (h : PDk K g H b D) (s : Mo (Ms ks) H H') (d : DKL K ks) : PDk K g H' b D := h.up s (fun c e => h.role (fun hk => d (c + 1) hk (c + 1) e c rfl rfl))
theorem PDk.mem (h : PDk K g H b D) {c : Nat} {r : Role} (e : g.ρ c = r) (hr : r ≠ .out) : c + 1 ∈ K := (h.hK c).2 (by rw [e]; exact hr)
theorem PDk.km {r : Role} (h : PDk K g H b D) (hk : ∀ c, c + 1 = k → g.ρ c = r) (hr : r ≠ .out) : KM K k := fun c e => h.mem (hk c e) hr
theorem PDk.km1 {c : Nat} {r : Role} (h : PDk K g H b D) (e : g.ρ c = r) (hr : r ≠ .out) : KM K (c + 1) := KM.of (h.mem e hr)
theorem PDk.ms (h : PDk K g H b D) (s : Mo S H H') (hS : ∀ c, S c → g.ρ c ≠ .out) : Mo (Ms K) H H' := s.weaken (fun c _ e => (h.hK c).2 (hS c e))
/-- the disk's own cells -/
theorem PDk.setFs {g' : Gh} (h : PDk K g H b D) (s : Mo (Ms [b + 1]) H H') (hg : g'.ρ = g.ρ ∧ g'.fb = g.fb ∧ g'.mb = g.mb ∧ g'.dm = g.dm)
    (hv : Var 73 H' b [.int .i64 D.cap, .int .i64 D.most, .map (some g.mb), .int .i64 D'.ops, .int .i64 g'.lv, .bool D'.dead]) (hl : D'.dead = false → g'.lv = D'.left) (hlb : g'.lv ≤ 9223372036854775807)
    (hD : D'.cap = D.cap ∧ D'.most = D.most ∧ D'.fs = D.fs ∧ D'.now = D.now ∧ D'.stays = D.stays ∧ D'.log = D.log) (ho : D.ops ≤ D'.ops) : PDk K g' H' b D' := by
  obtain ⟨r, fb, mb, dm, lv⟩ := g'
  obtain ⟨rfl, rfl, rfl, rfl⟩ := hg
  obtain ⟨cap, most, fs, now, stays, log, ops, left, dead⟩ := D'
  obtain ⟨rfl, rfl, rfl, rfl, rfl, rfl⟩ := hD
  have hS : ∀ c, Ms [b + 1] c → g.ρ c = .fs := fun c e => by
    have : c = b := by simpa [Ms] using e
    rw [this]; exact h.rb
  exact {
    hK := h.hK, lt := fun c e => Nat.lt_of_lt_of_le (h.lt c e) s.size, rb := h.rb, vb := hv, lvD := hl, lvB := hlb, capB := h.capB, mostB := h.mostB, rm := h.rm
    hm := h.hm.up s (fun e => by have := hS _ e; rw [h.rm] at this; cases this)
    dirs := fun p db e => by
      obtain ⟨nb, sb, k, sv, nm, sm, hd⟩ := h.dirs p db e
      exact ⟨nb, sb, k, sv, nm, sm, hd.tr (Ext.refl _) s (fun c hc => by rw [hS c hc]; simp) (fun _ _ => rfl) (fun _ _ => rfl) rfl⟩
    abs := h.abs, len := h.len
    fil := fun i hi => by
      obtain ⟨nv, sv, wv, k, l, hf⟩ := h.fil i hi
      exact ⟨nv, sv, wv, k, l, hf.tr (Ext.refl _) s (fun c hc => by rw [hS c hc]; simp)⟩
    ids := h.ids, dml := Nat.le_trans h.dml ho }
/-- one directory is otherwise now -/
theorem PDk.setDir (h : PDk K g H b D) (s : Mo S H H') (hS : ∀ c, S c → g.ρ c = .dir p ∨ g.ρ c = .now p ∨ g.ρ c = .sty p ∨ g.ρ c = .chg p ∨ g.ρ c = .out) (hx : Ext g.ρ ρ') (hK : ∀ c, c + 1 ∈ K' ↔ ρ' c ≠ .out) (lt : ∀ c, ρ' c ≠ .out → c < H'.size)
    (hp : mget g.dm p = some db) (hd : ∃ nb sb k sv nm sm, DirO ρ' g.fb H' D' p db nb sb k sv nm sm)
    (hD : D'.cap = D.cap ∧ D'.most = D.most ∧ D'.fs = D.fs ∧ D'.ops = D.ops ∧ D'.left = D.left ∧ D'.dead = D.dead)
    (hn : ∀ q, dirP q ≠ p → mget D'.now q = mget D.now q) (hs : ∀ q, dirP q ≠ p → mget D'.stays q = mget D.stays q) (hc : ∀ n, n ≠ p → D'.chgs n = D.chgs n)
    (ids : (∀ p i, mget D'.now p = some i → i < D'.fs.length) ∧ (∀ p i, mget D'.stays p = some i → i < D'.fs.length) ∧ (∀ c ∈ D'.log, ∀ i, c.f = some i → i < D'.fs.length)) : PDk K' { g with ρ := ρ' } H' b D' := by
  obtain ⟨cap, most, fs, now, stays, log, ops, left, dead⟩ := D'
  obtain ⟨rfl, rfl, rfl, rfl, rfl, rfl⟩ := hD
  exact {
    hK := hK, lt := lt, rb := hx.of h.rb (by simp)
    vb := h.vb.up s (fun e => by have := hS _ e; rw [h.rb] at this; simp at this)
    lvD := h.lvD, lvB := h.lvB, capB := h.capB, mostB := h.mostB, rm := hx.of h.rm (by simp)
    hm := h.hm.up s (fun e => by have := hS _ e; rw [h.rm] at this; simp at this)
    dirs := fun q db2 e => by
      by_cases hq : q = p
      · subst hq
        have : db2 = db := Option.some.inj (e.symm.trans hp)
        subst this; exact hd
      · obtain ⟨nb, sb, k, sv, nm, sm, hd⟩ := h.dirs q db2 e
        refine ⟨nb, sb, k, sv, nm, sm, hd.tr hx s (fun c hc => ?_) (fun r hr => hn r (by rw [hr]; exact hq)) (fun r hr => hs r (by rw [hr]; exact hq)) (hc q hq)⟩
        rcases hS c hc with e | e | e | e | e <;> (rw [e]; simp [Ne.symm hq])
    abs := fun q e => by
      have hq : q ≠ p := fun e2 => by subst e2; rw [hp] at e; cases e
      obtain ⟨h1, h2⟩ := h.abs q e
      exact ⟨fun r hr => by rw [hn r (by rw [hr]; exact hq), hs r (by rw [hr]; exact hq)]; exact h1 r hr, by rw [hc q hq]; exact h2⟩
    len := h.len
    fil := fun i hi => by
      obtain ⟨nv, sv, wv, k, l, hf⟩ := h.fil i hi
      refine ⟨nv, sv, wv, k, l, hf.tr hx s (fun c hc => ?_)⟩
      rcases hS c hc with e | e | e | e | e <;> (rw [e]; simp)
    ids := ids, dml := h.dml }
/-- one file is otherwise now -/
theorem PDk.setFil {y : Fdt} (h : PDk K g H b D) (hi : i < D.fs.length) (s : Mo S H H') (hS : ∀ c, S c → g.ρ c = .fil i ∨ g.ρ c = .wrs i ∨ g.ρ c = .out) (hx : Ext g.ρ ρ') (hK : ∀ c, c + 1 ∈ K' ↔ ρ' c ≠ .out) (lt : ∀ c, ρ' c ≠ .out → c < H'.size)
    (hf : ∃ nv sv wv k l, FilO ρ' H' i (g.fb.getD i 0) y nv sv wv k l) : PDk K' { g with ρ := ρ' } H' b (D.putF i y) := by
  have hfl : (D.putF i y).fs.length = D.fs.length := by simp [Dk.putF]
  exact {
    hK := hK, lt := lt, rb := hx.of h.rb (by simp)
    vb := h.vb.up s (fun e => by have := hS _ e; rw [h.rb] at this; simp at this)
    lvD := h.lvD, lvB := h.lvB, capB := h.capB, mostB := h.mostB, rm := hx.of h.rm (by simp)
    hm := h.hm.up s (fun e => by have := hS _ e; rw [h.rm] at this; simp at this)
    dirs := fun q db2 e => by
      obtain ⟨nb, sb, k, sv, nm, sm, hd⟩ := h.dirs q db2 e
      refine ⟨nb, sb, k, sv, nm, sm, hd.tr hx s (fun c hc => ?_) (fun _ _ => rfl) (fun _ _ => rfl) rfl⟩
      rcases hS c hc with e | e | e <;> (rw [e]; simp)
    abs := h.abs, len := by rw [hfl]; exact h.len
    fil := fun j hj => by
      rw [hfl] at hj
      by_cases hji : j = i
      · subst hji
        have e : fget (D.putF j y).fs j = y := by simp [fget, Dk.putF, List.getD, hi]
        rw [e]; exact hf
      · have e : fget (D.putF i y).fs j = fget D.fs j := by simp [fget, Dk.putF, List.getD, List.getElem?_set, Ne.symm hji]
        rw [e]
        obtain ⟨nv, sv, wv, k, l, hf⟩ := h.fil j hj
        refine ⟨nv, sv, wv, k, l, hf.tr hx s (fun c hc => ?_)⟩
        rcases hS c hc with e | e | e <;> (rw [e]; simp [Ne.symm hji])
    ids := by rw [hfl]; exact h.ids
    dml := h.dml }
/-- roles of one block more -/
def upr (ρ : Nat → Role) (x : Nat) (r : Role) : Nat → Role := fun c => if c = x then r else ρ c
theorem upr_self {x : Nat} {r : Role} : upr ρ x r x = r := if_pos rfl
theorem upr_ne {x c : Nat} {r : Role} (h : c ≠ x) : upr ρ x r c = ρ c := if_neg h
theorem Ext.upr {x : Nat} {r : Role} (h : ρ x = .out) : Ext ρ (upr ρ x r) := fun c hc => by
  by_cases e : c = x
  · subst e; exact absurd h hc
  · exact upr_ne e
theorem Ext.trans {ρ2 : Nat → Role} (h : Ext ρ ρ') (h2 : Ext ρ' ρ2) : Ext ρ ρ2 := fun c hc => by
  have e := h c hc
  rw [h2 c (by rw [e]; exact hc), e]
theorem hK_upr {x : Nat} {r : Role} (hK : ∀ c, c + 1 ∈ K ↔ ρ c ≠ .out) (hr : r ≠ .out) : ∀ c, c + 1 ∈ (x + 1) :: K ↔ upr ρ x r c ≠ .out := fun c => by
  unfold upr
  rw [List.mem_cons]
  by_cases e : c = x
  · rw [if_pos e]; simp [e, hr]
  · rw [if_neg e, ← hK]
    constructor
    · rintro (h | h)
      · omega
      · exact h
    · exact .inr
theorem lt_upr {x : Nat} {r : Role} (lt : ∀ c, ρ c ≠ .out → c < H.size) (hs : H.size ≤ H'.size) (hx : x < H'.size) : ∀ c, upr ρ x r c ≠ .out → c < H'.size := fun c hc => by
  unfold upr at hc
  split at hc
  · rename_i e; rw [e]; exact hx
  · exact Nat.lt_of_lt_of_le (lt c hc) hs
/-- a role for a number, if it is one -/
def uprk (ρ : Nat → Role) (k : Nat) (r : Role) : Nat → Role := fun c => if c + 1 = k then r else ρ c
theorem uprk_self {c : Nat} {r : Role} (h : c + 1 = k) : uprk ρ k r c = r := if_pos h
theorem uprk_ne {c : Nat} {r : Role} (h : c + 1 ≠ k) : uprk ρ k r c = ρ c := if_neg h
theorem Ext.uprk {r : Role} (h : ∀ c, c + 1 = k → ρ c = .out ∨ ρ c = r) : Ext ρ (uprk ρ k r) := fun c hc => by
  unfold SimC.uprk
  split
  · rename_i e; rcases h c e with e2 | e2
    · exact absurd e2 hc
    · exact e2.symm
  · rfl
theorem hK_uprk {r : Role} (hK : ∀ c, c + 1 ∈ K ↔ ρ c ≠ .out) (hr : r ≠ .out) : ∀ c, c + 1 ∈ k :: K ↔ uprk ρ k r c ≠ .out := fun c => by
  unfold uprk
  rw [List.mem_cons]
  by_cases e : c + 1 = k
  · rw [if_pos e]; simp [e, hr]
  · rw [if_neg e, ← hK]; simp [e]
theorem lt_uprk {r : Role} (lt : ∀ c, ρ c ≠ .out → c < H.size) (hs : H.size ≤ H'.size) (hx : k ≤ H'.size) : ∀ c, uprk ρ k r c ≠ .out → c < H'.size := fun c hc => by
  unfold uprk at hc
  split at hc
  · omega
  · exact Nat.lt_of_lt_of_le (lt c hc) hs
theorem PDk.newk (h : PDk K g H b D) (hk : DL k K) : ∀ c, c + 1 = k → g.ρ c = .out := fun c e => h.role (fun hm => hk (c + 1) hm c e rfl)
theorem PDk.nxk {k2 : Nat} (h : PDk K g H b D) (hk : Nx k H.size k2) {r : Role} (hr : ∀ c, c + 1 = k → g.ρ c = r) : ∀ c, c + 1 = k2 → g.ρ c = .out ∨ g.ρ c = r := fun c e => by
  rcases hk with e2 | e2 | e2
  · omega
  · exact .inr (hr c (by omega))
  · exact .inl (Classical.byContradiction (fun hq => by have := h.lt c hq; omega))
/-- a file more -/
theorem PDk.newFil {x : Nat} (h : PDk K g H b D) (hv : Var 112 H x [.slice none 0 0, .slice none 0 0, .slice none 0 0]) (hx : DL (x + 1) K) :
    PDk ((x + 1) :: K) { g with ρ := upr g.ρ x (.fil D.fs.length), fb := g.fb ++ [x] } H b { D with fs := D.fs ++ [⟨[], [], []⟩] } := by
  have ho : g.ρ x = .out := h.role (fun hk => hx (x + 1) hk x rfl rfl)
  have he : Ext g.ρ (upr g.ρ x (.fil D.fs.length)) := Ext.upr ho
  have hg : ∀ i, i < D.fs.length → (g.fb ++ [x]).getD i 0 = g.fb.getD i 0 := fun i hi => by simp [List.getD, List.getElem?_append_left (show i < g.fb.length by rw [h.len]; exact hi)]
  have hS : ∀ c, (fun _ => False) c → g.ρ c = .out := fun _ e => e.elim
  exact {
    hK := hK_upr h.hK (by simp), lt := lt_upr h.lt (Nat.le_refl _) hv.lt, rb := he.of h.rb (by simp), vb := h.vb
    lvD := h.lvD, lvB := h.lvB, capB := h.capB, mostB := h.mostB, rm := he.of h.rm (by simp), hm := h.hm
    dirs := fun q db2 e => by
      obtain ⟨nb, sb, k, sv, nm, sm, hd⟩ := h.dirs q db2 e
      have hd2 := hd.tr (D' := D) he (Mo.refl (fun _ => False) H) (fun c hc => hc.elim) (fun _ _ => rfl) (fun _ _ => rfl) rfl
      refine ⟨nb, sb, k, sv, nm, sm, { hd2 with hn := mp_congr hd2.hn (fun y hy => ?_), hs := mp_congr hd2.hs (fun y hy => ?_), hc := ow_congr hd2.hc (fC_len _) (fC_one _) (fun c hc => ?_) }⟩
      · have := h.ids.1 y.1 y.2 (by
          have e2 := mget_of_mem hd.hn.mo.nodup (show (y.1, y.2) ∈ nm from hy)
          rw [hd.en] at e2
          split at e2
          · exact e2
          · cases e2)
        rw [fvl, fvl, hg _ this]
      · have := h.ids.2.1 y.1 y.2 (by
          have e2 := mget_of_mem hd.hs.mo.nodup (show (y.1, y.2) ∈ sm from hy)
          rw [hd.es] at e2
          split at e2
          · exact e2
          · cases e2)
        rw [fvl, fvl, hg _ this]
      · have := h.ids.2.2 c (List.mem_filter.1 hc).1
        unfold fC fpt
        cases hcf : c.f with
        | none => rfl
        | some i => simp only [Option.map_some]; rw [hg i (this i hcf)]
    abs := h.abs
    len := by simp [h.len]
    fil := fun j hj => by
      by_cases hj2 : j < D.fs.length
      · obtain ⟨nv, sv, wv, k, l, hf⟩ := h.fil j hj2
        have e : fget (D.fs ++ [⟨[], [], []⟩]) j = fget D.fs j := by simp [fget, List.getD, List.getElem?_append_left hj2]
        rw [hg j hj2]
        refine ⟨nv, sv, wv, k, l, ?_⟩
        show FilO _ H j _ (fget (D.fs ++ [⟨[], [], []⟩]) j) _ _ _ _ _
        rw [e]
        exact hf.tr he (Mo.refl (fun _ => False) H) (fun c hc => hc.elim)
      · have hj3 : j = D.fs.length := by simp at hj; omega
        subst hj3
        have e : fget (D.fs ++ [⟨[], [], []⟩]) D.fs.length = ⟨[], [], []⟩ := by simp [fget, List.getD]
        have e2 : (g.fb ++ [x]).getD D.fs.length 0 = x := by rw [← h.len]; simp [List.getD]
        refine ⟨⟨none, 0, 0⟩, ⟨none, 0, 0⟩, ⟨none, 0, 0⟩, 0, [], ?_⟩
        show FilO _ H _ ((g.fb ++ [x]).getD D.fs.length 0) (fget (D.fs ++ [⟨[], [], []⟩]) D.fs.length) _ _ _ _ _
        rw [e, e2]
        exact { rf := upr_self, vf := hv, hn := Rd.nil _ _ _ _, hs := Rd.nil _ _ _ _, hw := Ow.nil fW_len fW_one, lw := rfl, hd := fun y hy => (by cases hy), rk := fun c e => (by omega) }
    ids := by
      have hl : ({ D with fs := D.fs ++ [⟨[], [], []⟩] } : Dk).fs.length = D.fs.length + 1 := by simp
      rw [hl]
      exact ⟨fun p i e => Nat.lt_succ_of_lt (h.ids.1 p i e), fun p i e => Nat.lt_succ_of_lt (h.ids.2.1 p i e), fun c hc i e => Nat.lt_succ_of_lt (h.ids.2.2 c hc i e)⟩
    dml := h.dml }
/-- a directory more -/
theorem PDk.newDir {db nb sb : Nat} (h : PDk K g H b D) (hp : mget g.dm p = none) (hvd : Var 99 H db [.map (some nb), .map (some sb), .slice none 0 0]) (hn : Mp H Str (fvl g.fb) nb ([] : Nms)) (hs : Mp H Str (fvl g.fb) sb ([] : Nms))
    (hxd : DL (db + 1) K) (hxn : DL (nb + 1) K) (hxs : DL (sb + 1) K) (hdn : db ≠ nb) (hds : db ≠ sb) (hns : nb ≠ sb) (s : Mo (Ms [g.mb + 1]) H H') (hm : Mp H' Str ptr g.mb (mput g.dm p db)) (hl : g.dm.length + 1 ≤ D.ops) :
    PDk ((db + 1) :: (sb + 1) :: (nb + 1) :: K) { g with ρ := upr (upr (upr g.ρ nb (.now p)) sb (.sty p)) db (.dir p), dm := mput g.dm p db } H' b D := by
  have on : g.ρ nb = .out := h.role (fun hk => hxn (nb + 1) hk nb rfl rfl)
  have os : g.ρ sb = .out := h.role (fun hk => hxs (sb + 1) hk sb rfl rfl)
  have od : g.ρ db = .out := h.role (fun hk => hxd (db + 1) hk db rfl rfl)
  have he : Ext g.ρ (upr (upr (upr g.ρ nb (.now p)) sb (.sty p)) db (.dir p)) := by
    refine (Ext.upr on).trans ((Ext.upr ?_).trans (Ext.upr ?_))
    · rw [upr_ne (Ne.symm hns)]; exact os
    · rw [upr_ne hds, upr_ne hdn]; exact od
  have hS : ∀ c, Ms [g.mb + 1] c → g.ρ c = .dirs := fun c e => by
    have : c = g.mb := by simpa [Ms] using e
    rw [this]; exact h.rm
  have hlt : ∀ c, g.ρ c = .out → c ≠ g.mb := fun c e e2 => by rw [e2, h.rm] at e; cases e
  obtain ⟨ab1, ab2⟩ := h.abs p hp
  exact {
    hK := hK_upr (hK_upr (hK_upr h.hK (by simp)) (by simp)) (by simp)
    lt := lt_upr (lt_upr (lt_upr h.lt (Nat.le_refl _) hn.lt) (Nat.le_refl _) hs.lt) s.size (Nat.lt_of_lt_of_le hvd.lt s.size), rb := he.of h.rb (by simp)
    vb := h.vb.up s (fun e => by have := hS _ e; rw [h.rb] at this; simp at this)
    lvD := h.lvD, lvB := h.lvB, capB := h.capB, mostB := h.mostB, rm := he.of h.rm (by simp), hm := hm
    dirs := fun q db2 e => by
      rw [mget_put] at e
      by_cases hq : q = p
      · rw [if_pos hq] at e
        have e := Option.some.inj e
        subst e; subst hq
        refine ⟨nb, sb, 0, ⟨none, 0, 0⟩, [], [], ?_⟩
        have hup : ∀ c, g.ρ c = .out → ¬ Ms [g.mb + 1] c := fun c e e2 => by have := hS c e2; rw [e] at this; cases this
        exact { rd := upr_self, vd := hvd.up s (hup _ od), rn := by show upr (upr (upr g.ρ nb _) sb _) db _ nb = _; rw [upr_ne (Ne.symm hdn), upr_ne hns, upr_self], hn := hn.up s (hup _ on), rs := by show upr (upr (upr g.ρ nb _) sb _) db _ sb = _; rw [upr_ne (Ne.symm hds), upr_self], hs := hs.up s (hup _ os)
                en := fun r => by
                  rw [mget]; split
                  · rename_i hr; rw [(ab1 r hr).1]
                  · rfl
                es := fun r => by
                  rw [mget]; split
                  · rename_i hr; rw [(ab1 r hr).2]
                  · rfl
                hc := by rw [ab2]; exact Ow.nil (fC_len _) (fC_one _), rc := fun c e => (by omega) }
      · rw [if_neg hq] at e
        obtain ⟨nb, sb, k, sv, nm, sm, hd⟩ := h.dirs q db2 e
        exact ⟨nb, sb, k, sv, nm, sm, hd.tr he s (fun c hc => by rw [hS c hc]; simp) (fun _ _ => rfl) (fun _ _ => rfl) rfl⟩
    abs := fun q e => by
      rw [mget_put] at e
      by_cases hq : q = p
      · rw [if_pos hq] at e; cases e
      · rw [if_neg hq] at e; exact h.abs q e
    len := h.len
    fil := fun i hi => by
      obtain ⟨nv, sv, wv, k, l, hf⟩ := h.fil i hi
      exact ⟨nv, sv, wv, k, l, hf.tr he s (fun c hc => by rw [hS c hc]; simp)⟩
    ids := h.ids
    dml := by
      have : (mput g.dm p db).length = g.dm.length + 1 := by simp [mput, hp]
      show (mput g.dm p db).length ≤ _
      omega }
/-- the change that a directory's names underwent -/
theorem PDk.put {c : Chg} {m' : Nms} (h : PDk K g H b D) (hp : mget g.dm p = some db) (hd : DirO g.ρ g.fb H D p db nb sb k sv nm sm) (s : Mo (Ms [nb + 1]) H H') (hm : Mp H' Str (fvl g.fb) nb m') (hm' : ∀ q, mget m' q = c.at q (mget nm q))
    (hcn : ∀ i, c.f = some i → dirP c.n = p ∧ i < D.fs.length) (hcg : c.g ≠ [] → dirP c.g = p) : PDk K g H' b { D with now := c.ap D.now } ∧ Mo (Ms K) H H' := by
  have hS : ∀ x, Ms [nb + 1] x → g.ρ x = .now p := fun x e => by
    have : x = nb := by simpa [Ms] using e
    rw [this]; exact hd.rn
  have hat : ∀ q o, dirP q ≠ p → c.at q o = o := fun q o hq => by
    unfold Chg.at
    cases hcf : c.f with
    | none =>
      simp only
      rw [if_neg (fun e => hq (by rw [e.2]; exact hcg e.1))]
    | some i =>
      simp only
      rw [if_neg (fun e => hq (by rw [e]; exact (hcn i hcf).1)), if_neg (fun e => hq (by rw [e.2]; exact hcg e.1))]
  refine ⟨?_, h.ms s (fun x e => by rw [hS x e]; simp)⟩
  have hup : ∀ x, g.ρ x ≠ .now p → ¬ Ms [nb + 1] x := fun x hx e => hx (hS x e)
  refine h.setDir (ρ' := g.ρ) s (fun x e => .inr (.inl (hS x e))) (Ext.refl _) h.hK (fun x e => Nat.lt_of_lt_of_le (h.lt x e) s.size) hp ⟨nb, sb, k, sv, m', sm, ?_⟩ ⟨rfl, rfl, rfl, rfl, rfl, rfl⟩ (fun q hq => ?_) (fun q hq => rfl) (fun n hn => rfl) ⟨fun q i e => ?_, h.ids.2.1, h.ids.2.2⟩
  · exact { rd := hd.rd, vd := hd.vd.up s (hup _ (by rw [hd.rd]; simp)), rn := hd.rn, hn := hm, rs := hd.rs, hs := hd.hs.up s (hup _ (by rw [hd.rs]; simp))
            en := fun q => by
              show _ = if dirP q = p then mget (c.ap D.now) q else none
              rw [hm', hd.en, mget_ap]
              split
              · rfl
              · rename_i hq; exact hat q none hq
            es := hd.es, hc := hd.hc.up s (fun x _ e => hup x (by rw [hd.rc x e]; simp)), rc := hd.rc }
  · show mget (c.ap D.now) q = mget D.now q
    rw [mget_ap]; exact hat q _ hq
  · have e : mget (c.ap D.now) q = some i := e
    rw [mget_ap] at e
    unfold Chg.at at e
    cases hcf : c.f with
    | none =>
      rw [hcf] at e; simp only at e
      split at e
      · cases e
      · exact h.ids.1 q i e
    | some j =>
      rw [hcf] at e; simp only at e
      split at e
      · cases e; exact (hcn _ hcf).2
      · split at e
        · cases e
        · exact h.ids.1 q i e
/-- the change is noted -/
theorem PDk.note {c : Chg} {k2 : Nat} {sv2 : SV} (h : PDk K g H b D) (hp : mget g.dm p = some db) (hd : DirO g.ρ g.fb H D p db nb sb k sv nm sm) (s : Mo (Ms [db + 1, k]) H H') (hv : Var 99 H' db [.map (some nb), .map (some sb), sv2.v]) (hc : Ow k2 103 H' (fC g.fb) 3 sv2.v (D.chgs p ++ [c])) (hk : Nx k H.size k2)
    (hcd : c.dir = p) (hcf : ∀ i, c.f = some i → i < D.fs.length) : PDk (k2 :: K) { g with ρ := uprk g.ρ k2 (.chg p) } H' b { D with log := D.log ++ [c] } := by
  have hS : ∀ x, Ms [db + 1, k] x → g.ρ x = .dir p ∨ g.ρ x = .chg p := fun x e => by
    have : x + 1 = db + 1 ∨ x + 1 = k := by simpa [Ms] using e
    rcases this with e | e
    · exact .inl (by rw [show x = db by omega]; exact hd.rd)
    · exact .inr (hd.rc x e)
  have hx : Ext g.ρ (uprk g.ρ k2 (.chg p)) := Ext.uprk (h.nxk hk hd.rc)
  have hup : ∀ x, g.ρ x ≠ .dir p → g.ρ x ≠ .chg p → ¬ Ms [db + 1, k] x := fun x h1 h2 e => (hS x e).elim h1 h2
  have hch : ({ D with log := D.log ++ [c] } : Dk).chgs p = D.chgs p ++ [c] := by simp [Dk.chgs, hcd]
  refine h.setDir s (fun x e => (hS x e).elim .inl (fun e => .inr (.inr (.inr (.inl e))))) hx (hK_uprk h.hK (by simp)) (lt_uprk h.lt s.size hc.le) hp ⟨nb, sb, k2, sv2, nm, sm, ?_⟩ ⟨rfl, rfl, rfl, rfl, rfl, rfl⟩ (fun q hq => rfl) (fun q hq => rfl) (fun n hn => ?_) ⟨h.ids.1, h.ids.2.1, fun x hxm i e => ?_⟩
  · exact { rd := hx.of hd.rd (by simp), vd := hv, rn := hx.of hd.rn (by simp), hn := hd.hn.up s (hup _ (by rw [hd.rn]; simp) (by rw [hd.rn]; simp)), rs := hx.of hd.rs (by simp), hs := hd.hs.up s (hup _ (by rw [hd.rs]; simp) (by rw [hd.rs]; simp))
            en := hd.en, es := hd.es, hc := by rw [hch]; exact hc, rc := fun x e => uprk_self e }
  · simp [Dk.chgs, hcd, Ne.symm hn]
  · rcases List.mem_append.1 hxm with hm | hm
    · exact h.ids.2.2 x hm i e
    · rw [List.mem_singleton.1 hm] at e; exact hcf i e
/-- a file's bytes are others now -/
theorem PDk.fnow {nw : List UInt8} {kn : Nat} {nv2 : SV} {bi : Nat} (h : PDk K g H b D) (hi : i < D.fs.length) (hf : FilO g.ρ H i (g.fb.getD i 0) (fget D.fs i) nv sv wv k l) (e : g.fb.getD i 0 = bi) (s : Mo (Ms [bi + 1]) H H') (hv : Var 112 H' bi [nv2.v, sv.v, wv.v]) (hn : Ow kn 5 H' fB 1 nv2.v nw) (hk : DL kn K) :
    PDk (kn :: K) { g with ρ := uprk g.ρ kn .frz } H' b (D.putF i ⟨nw, (fget D.fs i).stays, (fget D.fs i).w⟩) := by
  subst e
  have hS : ∀ x, Ms [g.fb.getD i 0 + 1] x → g.ρ x = .fil i := fun x e => by
    have : x = g.fb.getD i 0 := by simpa [Ms] using e
    rw [this]; exact hf.rf
  have hx : Ext g.ρ (uprk g.ρ kn .frz) := Ext.uprk (fun c e => .inl (h.newk hk c e))
  have hfz : ∀ c, Ms [g.fb.getD i 0 + 1] c → g.ρ c ≠ .frz := fun c e => by rw [hS c e]; simp
  refine h.setFil hi s (fun x e => .inl (hS x e)) hx (hK_uprk h.hK (by simp)) (lt_uprk h.lt s.size hn.le) ⟨nv2, sv, wv, k, l, ?_⟩
  exact { rf := hx.of hf.rf (by simp), vf := hv, hn := hn.rd.imp (fun c _ e => uprk_self e), hs := rd_frz hf.hs hx s hfz
          hw := hf.hw.up s (fun c _ e hc => by have := hS c hc; rw [hf.rk c e] at this; cases this), lw := hf.lw, hd := fun y hy => rd_frz (hf.hd y hy) hx s hfz, rk := fun c e => hx.of (hf.rk c e) (by simp) }
/-- a write is noted -/
theorem PDk.fwr {w : Wr} {sd wv2 : SV} {kd k2 bi : Nat} (h : PDk K g H b D) (hi : i < D.fs.length) (hf : FilO g.ρ H i (g.fb.getD i 0) (fget D.fs i) nv sv wv k l) (e : g.fb.getD i 0 = bi) (s : Mo (Ms [bi + 1, k]) H H') (hv : Var 112 H' bi [nv.v, sv.v, wv2.v]) (hw : Ow k2 149 H' fW 2 wv2.v (l ++ [(w, sd)])) (hk2 : Nx k H.size k2)
    (hd : Ow kd 5 H' fB 1 sd.v w.d) (hk : DL kd (k2 :: K)) :
    PDk (kd :: k2 :: K) { g with ρ := uprk (uprk g.ρ k2 (.wrs i)) kd .frz } H' b (D.putF i ⟨(fget D.fs i).now, (fget D.fs i).stays, (fget D.fs i).w ++ [w]⟩) := by
  subst e
  have hS : ∀ x, Ms [g.fb.getD i 0 + 1, k] x → g.ρ x = .fil i ∨ g.ρ x = .wrs i := fun x e => by
    have : x + 1 = g.fb.getD i 0 + 1 ∨ x + 1 = k := by simpa [Ms] using e
    rcases this with e | e
    · exact .inl (by rw [show x = g.fb.getD i 0 by omega]; exact hf.rf)
    · exact .inr (hf.rk x e)
  have hx1 : Ext g.ρ (uprk g.ρ k2 (.wrs i)) := Ext.uprk (h.nxk hk2 hf.rk)
  have hkd : ∀ c, c + 1 = kd → c + 1 ≠ k2 ∧ g.ρ c = .out := fun c e => by
    have h1 : c + 1 ≠ k2 := fun e2 => hk k2 List.mem_cons_self c e e2
    exact ⟨h1, h.newk (fun k hk2 => hk k (List.mem_cons_of_mem _ hk2)) c e⟩
  have hx2 : Ext (uprk g.ρ k2 (.wrs i)) (uprk (uprk g.ρ k2 (.wrs i)) kd .frz) := Ext.uprk (fun c e => .inl (by rw [uprk_ne (hkd c e).1]; exact (hkd c e).2))
  have hx := hx1.trans hx2
  have hfz : ∀ c, Ms [g.fb.getD i 0 + 1, k] c → g.ρ c ≠ .frz := fun c e => by rcases hS c e with e | e <;> (rw [e]; simp)
  refine h.setFil hi s (fun x e => (hS x e).elim .inl (fun e => .inr (.inl e))) hx (hK_uprk (hK_uprk h.hK (by simp)) (by simp)) (lt_uprk (lt_uprk h.lt s.size hw.le) (Nat.le_refl _) hd.le) ⟨nv, sv, wv2, k2, l ++ [(w, sd)], ?_⟩
  exact { rf := hx.of hf.rf (by simp), vf := hv, hn := rd_frz hf.hn hx s hfz, hs := rd_frz hf.hs hx s hfz, hw := hw, lw := by rw [List.map_append, hf.lw]; rfl
          hd := fun y hy => by
            rcases List.mem_append.1 hy with hy | hy
            · exact rd_frz (hf.hd y hy) hx s hfz
            · rw [List.mem_singleton.1 hy]; exact hd.rd.imp (fun c _ e => uprk_self e)
          rk := fun c e => by rw [uprk_ne (fun e2 => (hkd c e2).1 e)]; exact uprk_self e }
/-- its bytes stay -/
theorem PDk.fsync {bi : Nat} (h : PDk K g H b D) (hi : i < D.fs.length) (hf : FilO g.ρ H i (g.fb.getD i 0) (fget D.fs i) nv sv wv k l) (e : g.fb.getD i 0 = bi) (s : Mo (Ms [bi + 1]) H H') (hv : Var 112 H' bi [nv.v, nv.v, .slice none 0 0]) : PDk K g H' b (D.syncF i) := by
  subst e
  have hS : ∀ x, Ms [g.fb.getD i 0 + 1] x → g.ρ x = .fil i := fun x e => by
    have : x = g.fb.getD i 0 := by simpa [Ms] using e
    rw [this]; exact hf.rf
  have hfz : ∀ c, Ms [g.fb.getD i 0 + 1] c → g.ρ c ≠ .frz := fun c e => by rw [hS c e]; simp
  refine h.setFil (ρ' := g.ρ) hi s (fun x e => .inl (hS x e)) (Ext.refl _) h.hK (fun c e => Nat.lt_of_lt_of_le (h.lt c e) s.size) ⟨nv, nv, ⟨none, 0, 0⟩, 0, [], ?_⟩
  exact { rf := hf.rf, vf := hv, hn := rd_frz hf.hn (Ext.refl _) s hfz, hs := rd_frz hf.hn (Ext.refl _) s hfz, hw := Ow.nil fW_len fW_one, lw := rfl, hd := fun y hy => (by cases hy), rk := fun c e => (by omega) }
/-- what a crash left of it -/
theorem PDk.flose {bl : List UInt8} {kn bi : Nat} {nv2 : SV} (h : PDk K g H b D) (hi : i < D.fs.length) (hf : FilO g.ρ H i (g.fb.getD i 0) (fget D.fs i) nv sv wv k l) (e : g.fb.getD i 0 = bi) (s : Mo (Ms [bi + 1]) H H') (hv : Var 112 H' bi [nv2.v, nv2.v, .slice none 0 0]) (hn : Qr kn H' fB 1 nv2.v bl) (hk : ∀ c, c + 1 = kn → g.ρ c = .frz ∨ g.ρ c = .out) :
    PDk (kn :: K) { g with ρ := uprk g.ρ kn .frz } H' b (D.putF i ⟨bl, bl, []⟩) := by
  subst e
  have hS : ∀ x, Ms [g.fb.getD i 0 + 1] x → g.ρ x = .fil i := fun x e => by
    have : x = g.fb.getD i 0 := by simpa [Ms] using e
    rw [this]; exact hf.rf
  have hx : Ext g.ρ (uprk g.ρ kn .frz) := Ext.uprk (fun c e => (hk c e).symm)
  have hr : Rd (fun c => uprk g.ρ kn .frz c = .frz) H' fB 1 nv2.v bl := hn.rd.imp (fun c _ e => uprk_self e)
  refine h.setFil hi s (fun x e => .inl (hS x e)) hx (hK_uprk h.hK (by simp)) (lt_uprk h.lt s.size hn.le) ⟨nv2, nv2, ⟨none, 0, 0⟩, 0, [], ?_⟩
  exact { rf := hx.of hf.rf (by simp), vf := hv, hn := hr, hs := hr, hw := Ow.nil fW_len fW_one, lw := rfl, hd := fun y hy => (by cases hy), rk := fun c e => (by omega) }
theorem FilO.atb {b0 bi : Nat} (h : FilO ρ H i b0 x nv sv wv k l) (e : b0 = bi) : Var 112 H bi [nv.v, sv.v, wv.v] := e ▸ h.vf
theorem PDk.kmf {b0 bi : Nat} (h : PDk K g H b D) (hf : FilO g.ρ H i b0 x nv sv wv k l) (e : b0 = bi) : KM K (bi + 1) := e ▸ h.km1 hf.rf (by simp)
theorem FilO.ne {b0 bi : Nat} (h : FilO ρ H i b0 x nv sv wv k l) (e : b0 = bi) : Dj (bi + 1) k := fun c h1 h2 => by
  have h3 := h.rk c h2
  rw [show c = b0 by omega, h.rf] at h3; cases h3
theorem rd_q {α : Type} {F : Nat → Prop} {f : α → List Value} {sz : Nat} {v : Value} {l : List α} (h : Rd F H f sz v l) : ∃ k, Qr k H f sz v l ∧ ∀ c, c + 1 = k → F c := by
  obtain ⟨a, cap, h1, h2, h3, h4⟩ := h.ex
  by_cases hl : l = []
  · exact ⟨0, ⟨⟨a, cap, h1, h2, h3, fun h => absurd hl h⟩, Nat.zero_le _⟩, fun c e => (by omega)⟩
  · obtain ⟨ad, e1, e2, e3, e4, e5⟩ := h4 hl
    exact ⟨ad.block + 1, ⟨⟨a, cap, h1, h2, h3, fun _ => ⟨ad, e1, e2, rfl, e4, e5⟩⟩, e4⟩, fun c e => by rw [show c = ad.block by omega]; exact e3⟩
/-- one directory's names stay -/
theorem PDk.dsync {s2 : Nat} {sm2 : Nms} (h : PDk K g H b D) (hA : Asc D.now) (hp : mget g.dm p = some db) (hd : DirO g.ρ g.fb H D p db nb sb k sv nm sm) (s : Mo (Ms [db + 1]) H H') (hv : Var 99 H' db [.map (some nb), .map (some s2), .slice none 0 0]) (hm : Mp H' Str (fvl g.fb) s2 sm2) (hm2 : ∀ q, mget sm2 q = mget nm q) (hk : DL (s2 + 1) K) :
    PDk ((s2 + 1) :: K) { g with ρ := uprk g.ρ (s2 + 1) (.sty p) } H' b (D.stayD p) := by
  have hS : ∀ x, Ms [db + 1] x → g.ρ x = .dir p := fun x e => by
    have : x = db := by simpa [Ms] using e
    rw [this]; exact hd.rd
  have hx : Ext g.ρ (uprk g.ρ (s2 + 1) (.sty p)) := Ext.uprk (fun c e => .inl (h.newk hk c e))
  have hup : ∀ x, g.ρ x ≠ .dir p → ¬ Ms [db + 1] x := fun x hx e => hx (hS x e)
  have hst : ∀ q, mget (D.stayD p).stays q = if dirP q = p then mget D.now q else mget D.stays q := fun q => mget_merge hA p q
  refine h.setDir s (fun x e => .inl (hS x e)) hx (hK_uprk h.hK (by simp)) (lt_uprk h.lt s.size hm.lt) hp ⟨nb, s2, 0, ⟨none, 0, 0⟩, nm, sm2, ?_⟩ ⟨rfl, rfl, rfl, rfl, rfl, rfl⟩ (fun q hq => rfl) (fun q hq => by rw [hst, if_neg hq]) (fun n hn => ?_) ⟨h.ids.1, fun q i e => ?_, fun c hc i e => h.ids.2.2 c (List.mem_filter.1 hc).1 i e⟩
  · exact { rd := hx.of hd.rd (by simp), vd := hv, rn := hx.of hd.rn (by simp), hn := hd.hn.up s (hup _ (by rw [hd.rn]; simp)), rs := uprk_self rfl, hs := hm, en := hd.en
            es := fun q => by
              rw [hm2, hd.en, hst]
              split <;> rfl
            hc := by
              have : (D.stayD p).chgs p = [] := by unfold Dk.stayD Dk.chgs; rw [List.filter_filter, List.filter_eq_nil_iff]; intro c _; simp
              rw [this]; exact Ow.nil (fC_len _) (fC_one _)
            rc := fun c e => (by omega) }
  · unfold Dk.stayD Dk.chgs
    rw [List.filter_filter]
    refine List.filter_congr (fun c _ => ?_)
    by_cases e : c.dir = n
    · simp [e, hn]
    · simp [e]
  · rw [hst] at e
    split at e
    · exact h.ids.1 q i e
    · exact h.ids.2.1 q i e
end

end Go.Proofs.YtdliddjkacbggaaGreatDoor.SimC
