/-
  Contracts of functions of the program, and plain laws: put together of several texts.
-/
import Derived.Lib.SplitLaws
import Derived.Test.YtfjmpninmdjcaaaGreatDoorShelf
import Derived.Test.YtfjmpninmdjcaaaGreatDoorMcl
import Derived.Test.YtfjmpninmdjcaaaGreatDoorGa
import Derived.Test.YtfjmpninmdjcaaaGreatDoorGb
import Derived.Test.YtfjmpninmdjcaaaGreatDoorRows
import Derived.ProofKit
import Derived.OpenShut
import Derived.ShutString
import Derived.ChangeOld
import Derived.Below
import Derived.JoinedCond
import Derived.Deep.Slices
import Derived.ChangeSame
import Derived.Lib.AppendZerosOnto
import Derived.Sort.Walk0
import Derived.RangeFuncLeaves
import Derived.RangeFuncRecord
import Derived.RangeFuncSeq
set_option linter.unusedVariables false
set_option linter.unusedSimpArgs false
set_option linter.unusedSectionVars false
set_option linter.defProp false

namespace Go.Proofs.YtfjmpninmdjcaaaGreatDoor.SimA
open E Go.RowKit
set_option maxRecDepth 20000
theorem Ct.still {P : Program} {w0 : World} {f : FuncId} {args : Array Value} {H : Heap} {v : Value} (h : ∀ w, At w0 H w → Calls P f args w fun e w' => e = .returned v ∧ w' = w) : Ct P w0 f args H (fun r H2 => r = v ∧ Nw H H2) :=
 fun w ha => (h w ha).mono (fun e w' ⟨he, hw⟩ => ⟨v, H, he, by rw [hw]; exact ha, rfl, Nw.refl _⟩)
abbrev MX (m : Int) (H : Heap) : Prop := PtF (fun b => b = 0) H ⟨0, 0, none⟩ [.int .i64 m]
theorem MX.cell {m : Int} {H : Heap} {w0 w : World} (h : MX m H) (ha : At w0 H w) : w.cell? ⟨0, 0, none⟩ = some (.int .i64 m) := by
 have := h.pt.cells 0 (.int .i64 m) rfl
 rw [ha.cell]; exact this
theorem contains_ct (s sub : List UInt8) (mx_ : Int) (w0 : World) (H0 : Heap) (mx : MX mx_ H0) (hs : s.length < 4294967281) : Ct Tryz.prog w0 166 #[Str s, Str sub] H0 (fun r H2 => r = .bool (Lib.contains s sub) ∧ Nw H0 H2) :=
 Ct.still (fun w ha => by
  have h : Calls Tryz.prog 166 #[Str s, Str sub] w fun e w' => e = .returned (.bool (Lib.contains s sub)) ∧ w' = w := Any.strings_Contains Tryz.lays144 ⟨s.toArray⟩ ⟨sub.toArray⟩ mx_ w (by simpa [ByteArray.size] using hs) (mx.cell ha)
  exact h)
theorem idx_ct (s : List UInt8) (c : UInt8) (w0 : World) (H0 : Heap) : Ct Tryz.prog w0 167 #[Str s, .int .u8 c.toNat] H0 (fun r H2 => r = .int .i64 (Lib.indexByte s c) ∧ Nw H0 H2) :=
 Ct.still (fun w ha => by
  have h : Calls Tryz.prog 167 #[Str s, .int .u8 c.toNat] w fun e w' => e = .returned (.int .i64 (Lib.indexByte s ((c.toNat : Int)).toNat.toUInt8)) ∧ w' = w := Any.strings_IndexByte Tryz.lays137 ⟨s.toArray⟩ c.toNat w
  have e : ((c.toNat : Int)).toNat.toUInt8 = c := by simp
  rw [e] at h; exact h)
def lastL (p : List UInt8) : List UInt8 := (p.reverse.takeWhile (fun c => c ≠ 47)).reverse
theorem lastL_at {p : List UInt8} {j : Nat} (hj : j ≤ p.length) (h1 : ∀ q (h : q < p.length), j ≤ q → p[q] ≠ 47) (h2 : ∀ h : 0 < j, p[j - 1]'(by omega) = 47) : lastL p = p.drop j := by
 have e : p.reverse = (p.drop j).reverse ++ (p.take j).reverse := by rw [← List.reverse_append, List.take_append_drop]
 have hd : ∀ c ∈ (p.drop j).reverse, (decide (c ≠ 47)) = true := by
  intro c hc
  rw [List.mem_reverse, List.mem_iff_getElem] at hc
  obtain ⟨q, hq, rfl⟩ := hc
  rw [List.getElem_drop]
  simpa using h1 (j + q) (by simpa using (by rw [List.length_drop] at hq; omega)) (by omega)
 unfold lastL
 rw [e, List.takeWhile_append_of_pos hd]
 rcases Nat.eq_zero_or_pos j with h0 | h0
 · subst h0; simp
 · have e2 : (p.take j).reverse = 47 :: (p.take (j - 1)).reverse := by
    have : p.take j = p.take (j - 1) ++ [47] := by
     have h3 := List.take_succ_eq_append_getElem (l := p) (i := j - 1) (by omega)
     rw [show j - 1 + 1 = j by omega, h2 h0] at h3
     exact h3
    rw [this]; simp
   rw [e2, List.takeWhile_cons]; simp
theorem Ct.still2 {P : Program} {w0 : World} {f : FuncId} {args : Array Value} {H : Heap} {v : Value} (h : ∀ w, At w0 H w → Calls P f args w fun e w' => e = .returned v ∧ (w' = w ∨ w' = w.drew)) : Ct P w0 f args H (fun r H2 => r = v ∧ Nw H H2) :=
 fun w ha => (h w ha).mono (fun e w' ⟨he, hw⟩ => by
  rcases hw with rfl | rfl
  · exact ⟨v, H, he, ha, rfl, Nw.refl _⟩
  · exact ⟨v, H, he, ha.drew, rfl, Nw.refl _⟩)
theorem trim_ct (s : List UInt8) (w0 : World) (H0 : Heap) (hs : s.length ≤ 9223372036854775807) : Ct Tryz.prog w0 165 #[Str s, Str [47]] H0 (fun r H2 => r = Str (Lib.trimB s 47) ∧ Nw H0 H2) :=
 Ct.still2 (fun w ha => by
  have h : Calls Tryz.prog 165 #[Str s, Str [47]] w fun e w' => e = .returned (.string ⟨(Lib.trimB (⟨s.toArray⟩ : ByteArray).data.toList 47).toArray⟩) ∧ (w' = w ∨ w' = w.drew) := Any.strings_Trim_one Tryz.lays160 ⟨s.toArray⟩ 47 (by decide) w (by simpa [ByteArray.size] using hs)
  exact h)
def dd : List UInt8 → Bool
 | [] => false
 | [_] => false
 | a :: b :: l => (a == 47 && b == 47) || dd (b :: l)
theorem dd_index : ∀ s : List UInt8, (0 ≤ Lib.index s [47, 47]) ↔ dd s = true
 | [] => by simp [Lib.index, dd]
 | [a] => by simp [Lib.index, dd, List.isPrefixOf]
 | a :: b :: l => by
   have ih := dd_index (b :: l)
   have hg := Lib.index_ge (b :: l) [47, 47]
   rw [Lib.index]
   by_cases h : a = 47 ∧ b = 47
   · obtain ⟨rfl, rfl⟩ := h
     simp [List.isPrefixOf, dd]
   · have hp : ([47, 47] : List UInt8).isPrefixOf (a :: b :: l) = false := by
      simp only [List.isPrefixOf, Bool.and_true, Bool.and_eq_false_iff, beq_eq_false_iff_ne]
      by_cases h1 : a = 47
      · exact .inr (fun e => h ⟨h1, e.symm⟩)
      · exact .inl (fun e => h1 e.symm)
     have hd : dd (a :: b :: l) = dd (b :: l) := by
      rw [dd]
      have : (a == 47 && b == 47) = false := by
       rw [Bool.and_eq_false_iff, beq_eq_false_iff_ne, beq_eq_false_iff_ne]
       by_cases h1 : a = 47
       · exact .inr (fun e => h ⟨h1, e⟩)
       · exact .inl h1
      rw [this, Bool.false_or]
     rw [hp, hd, ← ih]
     simp only [Bool.false_eq_true, if_false]
     by_cases hm : Lib.index (b :: l) [47, 47] = -1
     · simp [hm]
     · simp [hm]; omega
theorem dd_iff : ∀ s : List UInt8, dd s = true ↔ ∃ i, i + 1 < s.length ∧ s.getD i 0 = 47 ∧ s.getD (i + 1) 0 = 47
 | [] => by simp [dd]
 | [a] => by simp [dd]
 | a :: b :: l => by
   rw [dd, Bool.or_eq_true, dd_iff (b :: l), Bool.and_eq_true, beq_iff_eq, beq_iff_eq]
   constructor
   · rintro (⟨h1, h2⟩ | ⟨i, h1, h2, h3⟩)
     · exact ⟨0, by simp, by simpa using h1, by simpa using h2⟩
     · exact ⟨i + 1, by simp at h1 ⊢; omega, by simpa using h2, by simpa using h3⟩
   · rintro ⟨i, h1, h2, h3⟩
     cases i with
     | zero => exact .inl ⟨by simpa using h2, by simpa using h3⟩
     | succ i => exact .inr ⟨i, by simp at h1 ⊢; omega, by simpa using h2, by simpa using h3⟩
theorem slk_iff {p : List UInt8} (h0 : 1 ≤ p.length) : slk p = true ↔ p.getD 0 0 ≠ 47 ∧ p.getD (p.length - 1) 0 ≠ 47 ∧ dd p = false := by
 unfold slk
 rw [List.all_eq_true]
 simp only [List.mem_range, Bool.not_eq_true', Bool.and_eq_false_iff, beq_eq_false_iff_ne, Bool.or_eq_false_iff]
 constructor
 · intro h
   refine ⟨?_, ?_, ?_⟩
   · rcases h 0 (by omega) with h | h
     · exact h
     · exact absurd rfl h.1.1
   · rcases h (p.length - 1) (by omega) with h | h
     · exact h
     · exact absurd rfl h.1.2
   · cases hd : dd p with
     | false => rfl
     | true =>
       obtain ⟨i, h1, h2, h3⟩ := (dd_iff p).1 hd
       rcases h (i + 1) h1 with h | h
       · exact absurd h3 h
       · exact absurd h2 (by simpa using h.2)
 · rintro ⟨h1, h2, h3⟩ i hi
   by_cases e : p.getD i 0 = 47
   · refine .inr ⟨⟨fun e0 => ?_, fun e0 => ?_⟩, fun e0 => ?_⟩
     · subst e0; exact h1 e
     · subst e0; exact h2 e
     · have : dd p = true := (dd_iff p).2 ⟨i - 1, by
        rcases Nat.eq_zero_or_pos i with h | h
        · subst h; exact absurd e h1
        · omega, e0, by
        rcases Nat.eq_zero_or_pos i with h | h
        · subst h; exact absurd e h1
        · rw [show i - 1 + 1 = i by omega]; exact e⟩
       rw [h3] at this; cases this
   · exact .inl e
theorem trimB_iff {p : List UInt8} (h0 : 1 ≤ p.length) : Lib.trimB p 47 = p ↔ p.getD 0 0 ≠ 47 ∧ p.getD (p.length - 1) 0 ≠ 47 := by
 have hL : ∀ q : List UInt8, (Lib.trimLeftB q 47).length ≤ q.length := fun q => (List.dropWhile_suffix _).length_le
 have hR : ∀ q : List UInt8, (Lib.trimRightB q 47).length ≤ q.length := fun q => by unfold Lib.trimRightB; rw [List.length_reverse]; have := (List.dropWhile_suffix (l := q.reverse) (fun x : UInt8 => x == 47)).length_le; rwa [List.length_reverse] at this
 have hl1 : ∀ q : List UInt8, 1 ≤ q.length → (Lib.trimLeftB q 47 = q ↔ q.getD 0 0 ≠ 47) := by
  intro q hq
  cases q with
  | nil => simp at hq
  | cons a l =>
    unfold Lib.trimLeftB
    rw [List.dropWhile_cons]
    by_cases ha : a = 47
    · have : (List.dropWhile (fun x : UInt8 => x == 47) l).length ≤ l.length := (List.dropWhile_suffix _).length_le
      simp only [ha, beq_self_eq_true, if_true, List.getD_cons_zero, ne_eq, not_true, iff_false]
      intro e
      rw [e] at this
      simp only [List.length_cons] at this
      omega
    · simp [ha]
 have hr1 : Lib.trimRightB p 47 = p ↔ p.getD (p.length - 1) 0 ≠ 47 := by
  have h := hl1 p.reverse (by rw [List.length_reverse]; omega)
  have e1 : p.reverse.getD 0 0 = p.getD (p.length - 1) 0 := by
   simp [List.getD, List.getElem?_reverse (show 0 < p.length by omega)]
  rw [← e1, ← h]
  unfold Lib.trimRightB Lib.trimLeftB
  constructor
  · intro h; have := congrArg List.reverse h; rwa [List.reverse_reverse] at this
  · intro h; rw [h, List.reverse_reverse]
 unfold Lib.trimB
 constructor
 · intro h
   have e : Lib.trimRightB p 47 = p := by
    refine (List.IsPrefix.eq_of_length_le ?_ ?_)
    · unfold Lib.trimRightB
      rw [← List.reverse_suffix, List.reverse_reverse]
      exact List.dropWhile_suffix _
    · have h1 := congrArg List.length h
      have h2 := hL (Lib.trimRightB p 47)
      omega
   rw [e] at h
   exact ⟨(hl1 p h0).1 h, hr1.1 e⟩
 · rintro ⟨h1, h2⟩
   rw [hr1.2 h2]; exact (hl1 p h0).2 h1
theorem name_iff (p : List UInt8) : nameB p = true ↔ p ≠ [] ∧ p.length ≤ 100 ∧ Lib.trimB p 47 = p ∧ Lib.contains p [47, 47] = false ∧ ∀ i (h : i < p.length), okc p[i] = true := by
 have hc : Lib.contains p [47, 47] = dd p := by
  unfold Lib.contains
  rw [Bool.eq_iff_iff, decide_eq_true_iff]; exact dd_index p
 unfold nameB
 simp only [Bool.and_eq_true, decide_eq_true_eq, List.all_eq_true]
 rw [hc]
 constructor
 · rintro ⟨⟨⟨h1, h2⟩, h3⟩, h4⟩
   have h5 := (slk_iff h1).1 h4
   exact ⟨fun e => by rw [e] at h1; simp at h1, h2, (trimB_iff h1).2 ⟨h5.1, h5.2.1⟩, h5.2.2, fun i h => h3 _ (List.getElem_mem h)⟩
 · rintro ⟨h1, h2, h3, h4, h5⟩
   have h0 : 1 ≤ p.length := by cases p with
    | nil => exact absurd rfl h1
    | cons a l => simp
   have h6 := (trimB_iff h0).1 h3
   refine ⟨⟨⟨h0, h2⟩, fun x hx => ?_⟩, (slk_iff h0).2 ⟨h6.1, h6.2, h4⟩⟩
   obtain ⟨i, hi, rfl⟩ := List.mem_iff_getElem.1 hx
   exact h5 i hi
theorem nameF {p : List UInt8} (h : ¬ (p ≠ [] ∧ p.length ≤ 100 ∧ Lib.trimB p 47 = p ∧ Lib.contains p [47, 47] = false ∧ ∀ i (h : i < p.length), okc p[i] = true)) : nameB p = false := by
 cases hn : nameB p with
 | false => rfl
 | true => exact absurd ((name_iff p).1 hn) h
theorem okc_iff (c : UInt8) : okc c = true ↔ (97 ≤ c.toNat ∧ c.toNat ≤ 122) ∨ (48 ≤ c.toNat ∧ c.toNat ≤ 57) ∨ 0 ≤ Lib.indexByte [46, 95, 45, 47] c := by
 have h : ∀ n : Fin 256, (okc (UInt8.ofNat n.val) = decide ((97 ≤ n.val ∧ n.val ≤ 122) ∨ (48 ≤ n.val ∧ n.val ≤ 57) ∨ 0 ≤ Lib.indexByte [46, 95, 45, 47] (UInt8.ofNat n.val))) := by decide +kernel
 have := h ⟨c.toNat, c.toNat_lt⟩
 simp only [UInt8.ofNat_toNat] at this
 rw [this, decide_eq_true_iff]
theorem head_of {s : List UInt8} {j : Nat} (hj : j ≤ s.length) (h : lastL s = s.drop j) : headP s = s.take (j - 1) := by
 unfold headP
 have h1 := congrArg List.length h
 unfold lastL at h1
 rw [List.length_reverse, List.length_drop] at h1
 rw [h1]; congr 1; omega
theorem lix_ct0 (s : List UInt8) (w0 : World) (H0 : Heap)
 (hl : s.length ≤ 9223372036854775807) :
 Ct Tryz.prog w0 255 #[Str s, .int .u8 (47 : UInt8).toNat] H0 (fun r H2 => ∃ j : Nat, r = .int .i64 ((j : Int) - 1) ∧ (j ≤ s.length) ∧ (lastL s = s.drop j) ∧ Nw H0 H2) := by
 refine Ct.enter (args := [Str s, .int .u8 (47 : UInt8).toNat]) Tryz.func255 rfl rfl rfl ?_
 intro Q0 hret
 have hm0 : Nw H0 H0 := Mo.refl _ _
 refine CW.s1 (fun hK1 => CW.region ?_)
 refine LR.a1 (LR.nil (hK1 _ _ ?_))
 refine CW.s2 (fun hK2 hE2 => CW.s1 (fun hK3 => CW.region ?_))
 refine LR.m1 ?_
 refine LR.v1 (Y.slen rfl u'9 rfl) ?_
 refine LR.v1 (Y.subi rfl rfl rfl (by omega)) ?_
 refine LR.a1 (LR.nil (hK3 _ _ ?_))
 refine CW.block (fun _ _ hX4 hE4 => ?_)
 refine CW.loop (fun (j : (Nat)) => [(0, Str s), (1, .int .u8 (47 : UInt8).toNat), (5, .int .i64 ((j : Int) - 1))])
  (fun (j : (Nat)) (H : Heap) => (j ≤ s.length) ∧ (∀ q (h : q < s.length), j ≤ q → s[q] ≠ 47) ∧ Nw H0 H)
  (fun (j : (Nat)) => j) s.length ⟨rfl, rfl, rfl, trivial⟩ ?_ ?_
 ·
  exact ⟨(by omega), (fun q h h2 => absurd h2 (by omega)), Mo.refl _ _⟩
 intro j HL1 hI1 K5 hN5 hE5
 obtain ⟨hj, hno, hlm1⟩ := hI1
 replace hm0 := hm0.tr hlm1
 have hz1 := hlm1.size
 refine CW.s2 (fun hK6 hE6 => CW.s1 (fun hK7 => CW.region ?_))
 refine LR.m1 ?_
 refine LR.v1 (Y.geq rfl rfl rfl) (LR.nil (hK7 _ _ ?_))
 refine CW.condp rfl (fun c10 => ?_) (fun c10 => ?_)
 ·
  refine CW.skip (hK6 _ _ (CW.s2 (fun hK8 hE8 => CW.block (fun _ hK9 _ hE9 => CW.s1 (fun hK10 => CW.region ?_)))))
  refine LR.m1 ?_
  refine LR.m1 ?_
  refine LR.v1 (Y.sindex (j - 1) rfl u'9 rfl rfl (by first | rfl | omega) (by omega)) ?_
  refine LR.m1 ?_
  refine LR.v1 (Y.eql rfl rfl rfl) (LR.nil (hK10 _ _ ?_))
  refine CW.condp rfl (fun c17 => ?_) (fun c17 => ?_)
  ·
   refine CW.s1 (fun hK11 => CW.region ?_)
   refine LR.m1 ?_
   refine LR.a1 (LR.nil (hK11 _ _ ?_))
   refine CW.ret (hE9 .ret nofun (by simp) _ _ (hE8 .ret nofun _ _ (hE5 .ret nofun _ _ (hE4 .ret nofun (by simp) _ _ (hE2 .ret nofun _ _ (hret .ret (.inr rfl) _ _ _ (res1 rfl rfl) ?_))))))
   exact ⟨j, rfl, (by omega), lastL_at hj hno (fun h => by apply UInt8.toNat_inj.1; have := c17; simp at this ⊢; omega), hm0⟩
  ·
   refine CW.skip (hK9 _ _ (hK8 _ _ (CW.region ?_)))
   refine LR.m1 ?_
   refine LR.v1 (Y.subi rfl rfl rfl (by omega)) ?_
   refine LR.a1 (LR.nil ?_)
   refine QN.sub (hN5 (j - 1) _ ?_ ?_) ⟨rfl, (iv (by omega)), (iv (by omega)), trivial⟩
   · exact ⟨(by omega), (fun q h h2 => by rcases Nat.lt_or_ge q j with h5 | h5; (obtain rfl : q = j - 1 := by omega); exact (fun e => c17 (by first | (rw [e]; done) | (rw [e]; rfl))); exact hno q h h5), hlm1⟩
   · first | omega | (simp only; omega) | (simp; omega)
 ·
  refine CW.exit (hE6 (.exit 0) nofun _ _ (hE5 (.exit 0) nofun _ _ (hX4 _ _ ?_)))
  refine hK2 _ _ (CW.s1 (fun hK12 => CW.region ?_))
  refine LR.a1 (LR.nil (hK12 _ _ ?_))
  refine CW.ret (hret .ret (.inr rfl) _ _ _ (res1 rfl rfl) ?_)
  obtain rfl : j = 0 := by omega
  exact ⟨0, rfl, (by omega), lastL_at hj hno (fun h => absurd h (Nat.lt_irrefl _)), hm0⟩
theorem lix_ct (s : List UInt8) (w0 : World) (H0 : Heap)
 (hl : s.length ≤ 9223372036854775807) :
 Ct Tryz.prog w0 223 #[Str s, .int .u8 (47 : UInt8).toNat] H0 (fun r H2 => ∃ j : Nat, r = .int .i64 ((j : Int) - 1) ∧ (j ≤ s.length) ∧ (lastL s = s.drop j) ∧ Nw H0 H2) := by
 refine Ct.enter (args := [Str s, .int .u8 (47 : UInt8).toNat]) Tryz.func223 rfl rfl rfl ?_
 intro Q0 hret
 have hm0 : Nw H0 H0 := Mo.refl _ _
 refine CW.s1 (fun hK1 => CW.region ?_)
 refine LR.a1 (LR.nil (hK1 _ _ ?_))
 refine CW.s1 (fun hK2 => CW.region ?_)
 refine LR.m1 ?_
 refine LR.m1 ?_
 refine LR.call rfl c'255 rfl (Wd.u rfl) rfl rfl (lix_ct0 s w0 _ hl) (fun v7 H7 r7 => ?_)
 obtain ⟨j7, rfl, hj7, hl7, hs7⟩ := r7
 replace hm0 := hm0.tr hs7
 refine LR.a1 (LR.nil (hK2 _ _ ?_))
 refine CW.ret (hret .ret (.inr rfl) _ _ _ (res1 rfl rfl) ?_)
 exact ⟨j7, rfl, hj7, hl7, hm0⟩
theorem name_ct (mx_ : Int) (l : List UInt8) (w0 : World) (H0 : Heap)
 (mx : MX mx_ H0) (bf_mx : BF (fun b => b = 0) H0.size) (hl : l.length ≤ 4294967280) :
 Ct Tryz.prog w0 88 #[Str l] H0 (fun r H2 => r = .bool (nameB l) ∧ Nw H0 H2) := by
 refine Ct.enter (args := [Str l]) Tryz.func88 rfl rfl rfl ?_
 intro Q0 hret
 have hm0 : Nw H0 H0 := Mo.refl _ _
 refine CW.s1 (fun hK1 => CW.region ?_)
 refine LR.a1 (LR.nil (hK1 _ _ ?_))
 refine CW.s2 (fun hK2 hE2 => CW.s1 (fun hK3 => CW.region ?_))
 refine LR.m1 ?_
 refine LR.v1 (Y.seql rfl rfl rfl) ?_
 refine LR.m1 ?_
 refine LR.splitp (d := 7) rfl (fun g7 => ?_) (fun g7 => ?_)
 ·
  refine LR.g1 ?_
  refine LR.g1 ?_
  refine LR.g1 ?_
  refine LR.v1 (Y.pick_t rfl rfl rfl) ?_
  refine LR.m1 ?_
  refine LR.g1 ?_
  refine LR.g1 ?_
  refine LR.g1 ?_
  refine LR.g1 ?_
  refine LR.v1 (Y.pick_t rfl rfl rfl) ?_
  refine LR.m1 ?_
  refine LR.g1 ?_
  refine LR.g1 ?_
  refine LR.v1 (Y.pick_t rfl rfl rfl) (LR.nil (hK3 _ _ ?_))
  refine CW.cond_t rfl ?_
  refine CW.s1 (fun hK4 => CW.region ?_)
  refine LR.a1 (LR.nil (hK4 _ _ ?_))
  refine CW.ret (hE2 .ret nofun _ _ (hret .ret (.inr rfl) _ _ _ (res1 rfl rfl) ?_))
  exact ⟨congrArg Value.bool (nameF (fun h => by obtain ⟨h1, h2, h3, h4, h5⟩ := h; first | exact h1 g7 | omega | exact g18 h3 | (rw [h4] at c21; cases c21))).symm, hm0⟩
 ·
  refine LR.w1 (Y.move rfl rfl) ?_
  refine LR.w1 (Y.slen rfl u'9 rfl) ?_
  refine LR.w1 (Y.gtr rfl rfl rfl) ?_
  refine LR.v1 (Y.pick_f rfl rfl rfl) ?_
  refine LR.m1 ?_
  refine LR.splitp (d := 12) rfl (fun g12 => ?_) (fun g12 => ?_)
  ·
   refine LR.g1 ?_
   refine LR.g1 ?_
   refine LR.g1 ?_
   refine LR.g1 ?_
   refine LR.v1 (Y.pick_t rfl rfl rfl) ?_
   refine LR.m1 ?_
   refine LR.g1 ?_
   refine LR.g1 ?_
   refine LR.v1 (Y.pick_t rfl rfl rfl) (LR.nil (hK3 _ _ ?_))
   refine CW.cond_t rfl ?_
   refine CW.s1 (fun hK5 => CW.region ?_)
   refine LR.a1 (LR.nil (hK5 _ _ ?_))
   refine CW.ret (hE2 .ret nofun _ _ (hret .ret (.inr rfl) _ _ _ (res1 rfl rfl) ?_))
   exact ⟨congrArg Value.bool (nameF (fun h => by obtain ⟨h1, h2, h3, h4, h5⟩ := h; first | exact h1 g7 | omega | exact g18 h3 | (rw [h4] at c21; cases c21))).symm, hm0⟩
  ·
   refine LR.w1 (Y.move rfl rfl) ?_
   refine LR.call rfl c'165 rfl (Wd.g rfl rfl rfl) rfl rfl (trim_ct l w0 _ (by omega)) (fun v14 H14 r14 => ?_)
   obtain ⟨rfl, hs14⟩ := r14
   replace mx := mx.nw hs14
   replace hm0 := hm0.tr hs14
   have hz1 := hs14.size
   refine LR.w1 (Y.move rfl rfl) ?_
   refine LR.w1 (Y.sneq rfl rfl rfl) ?_
   refine LR.v1 (Y.pick_f rfl rfl rfl) ?_
   refine LR.m1 ?_
   refine LR.splitp (d := 18) rfl (fun g18 => ?_) (fun g18 => ?_)
   ·
    refine LR.g1 ?_
    refine LR.g1 ?_
    refine LR.v1 (Y.pick_t rfl rfl rfl) (LR.nil (hK3 _ _ ?_))
    refine CW.cond_t rfl ?_
    refine CW.s1 (fun hK6 => CW.region ?_)
    refine LR.a1 (LR.nil (hK6 _ _ ?_))
    refine CW.ret (hE2 .ret nofun _ _ (hret .ret (.inr rfl) _ _ _ (res1 rfl rfl) ?_))
    exact ⟨congrArg Value.bool (nameF (fun h => by obtain ⟨h1, h2, h3, h4, h5⟩ := h; first | exact h1 g7 | omega | exact g18 h3 | (rw [h4] at c21; cases c21))).symm, hm0⟩
   ·
    refine LR.w1 (Y.move rfl rfl) ?_
    refine LR.call rfl c'166 rfl (Wd.g rfl rfl rfl) rfl rfl (contains_ct l [47, 47] mx_ w0 _ mx (by omega)) (fun v20 H20 r20 => ?_)
    obtain ⟨rfl, hs20⟩ := r20
    replace hm0 := hm0.tr hs20
    have hz2 := hs20.size
    refine LR.v1 (Y.pick_f rfl rfl rfl) (LR.nil (hK3 _ _ ?_))
    refine CW.cond rfl (fun c21 => ?_) (fun c21 => ?_)
    ·
     refine CW.s1 (fun hK7 => CW.region ?_)
     refine LR.a1 (LR.nil (hK7 _ _ ?_))
     refine CW.ret (hE2 .ret nofun _ _ (hret .ret (.inr rfl) _ _ _ (res1 rfl rfl) ?_))
     exact ⟨congrArg Value.bool (nameF (fun h => by obtain ⟨h1, h2, h3, h4, h5⟩ := h; first | exact h1 g7 | omega | exact g18 h3 | (rw [h4] at c21; cases c21))).symm, hm0⟩
    ·
     refine CW.skip (hK2 _ _ (CW.s2 (fun hK8 hE8 => CW.s1 (fun hK9 => CW.region ?_))))
     refine LR.m1 ?_
     refine LR.z1 (Z.strbw rfl Tryz.underlying9 Tryz.underlying57 Tryz.underlying5 rfl (by omega)) fun v23 H23 r23 => ?_
     obtain ⟨owb, hs23, hzs23⟩ := r23
     replace hm0 := hm0.tr hs23
     have hz3 := hs23.size
     refine LR.v1 (Y.len owb.rd rfl u'57 rfl) ?_
     refine LR.m1 (LR.nil (hK9 _ _ ?_))
     refine CW.block (fun _ _ hX10 hE10 => ?_)
     refine CW.loop (fun (i : (Nat)) => [(23, v23), (24, .int .i64 l.length), (25, .int .i64 i)])
      (fun (i : (Nat)) (H : Heap) => (i ≤ l.length) ∧ (∀ q (h : q < l.length), q < i → okc l[q] = true) ∧ Nw H23 H)
      (fun (i : (Nat)) => l.length - i) 0 ⟨rfl, rfl, rfl, trivial⟩ ?_ ?_
     ·
      exact ⟨(by omega), (fun q h h2 => absurd h2 (by omega)), Mo.refl _ _⟩
     intro i HL1 hI1 K11 hN11 hE11
     obtain ⟨hi, hok, hlm1⟩ := hI1
     replace owb := owb.nw hlm1
     replace hm0 := hm0.tr hlm1
     have hz4 := hlm1.size
     refine CW.s1 (fun hK12 => CW.region ?_)
     refine LR.v1 (Y.lss rfl rfl rfl) (LR.nil (hK12 _ _ ?_))
     refine CW.s2 (fun hK13 hE13 => ?_)
     refine CW.condp rfl (fun c26 => ?_) (fun c26 => ?_)
     ·
      have hil : i < l.length := by omega
      refine CW.skip (hK13 _ _ (CW.s2 (fun hK14 hE14 => CW.block (fun _ hK15 _ hE15 => CW.s1 (fun hK16 => CW.region ?_)))))
      refine LR.v1 (Y.owAddr owb (i) rfl u'57 s'5 rfl rfl (by first | rfl | omega) (by first | omega | (simp; omega) | (simp; done))) ?_
      refine LR.v1 (Y.load1 (owb.pt (j := i) (by first | omega | (simp; omega) | (simp; done))) rfl a'5 rfl) ?_
      refine LR.a1 (LR.nil (hK16 _ _ ?_))
      refine CW.s1 (fun hK17 => CW.region ?_)
      refine LR.m1 ?_
      refine LR.v1 (Y.geq rfl rfl rfl) ?_
      refine LR.m1 ?_
      refine LR.splitp (d := 31) rfl (fun g31 => ?_) (fun g31 => ?_)
      ·
       refine LR.w1 (Y.move rfl rfl) ?_
       refine LR.w1 (Y.leq rfl rfl rfl) ?_
       refine LR.v1 (Y.pick_t rfl rfl rfl) ?_
       refine LR.m1 ?_
       refine LR.splitp (d := 35) rfl (fun g35 => ?_) (fun g35 => ?_)
       ·
        refine LR.g1 ?_
        refine LR.g1 ?_
        refine LR.g1 ?_
        refine LR.gsu rfl rfl rfl rfl rfl ?_
        refine LR.gsu rfl rfl rfl rfl rfl ?_
        refine LR.g1 ?_
        refine LR.v1 (Y.pick_t rfl rfl rfl) ?_
        refine LR.m1 ?_
        refine LR.g1 ?_
        refine LR.g1 ?_
        refine LR.g1 ?_
        refine LR.v1 (Y.pick_t rfl rfl rfl) ?_
        refine LR.v1 (Y.not rfl rfl) (LR.nil (hK17 _ _ ?_))
        refine CW.cond_f rfl ?_
        refine CW.skip (hK15 _ _ (hK14 _ _ (CW.region ?_)))
        refine LR.v1 (Y.addi rfl rfl rfl (by omega)) ?_
        refine LR.m1 (LR.nil ?_)
        have hci : okc l[i] = true := (okc_iff _).2 (by simp at *; omega)
        refine QN.sub (hN11 (i + 1) _ ?_ ?_) ⟨rfl, (iv (by omega)), (iv (by omega)), trivial⟩
        · exact ⟨(by omega), (fun q h h2 => by rcases Nat.lt_or_ge q i with h5 | h5; exact hok q h h5; (obtain rfl : q = i := by omega); exact hci), hlm1⟩
        · first | omega | (simp only; omega) | (simp; omega)
       ·
        refine LR.w1 (Y.move rfl rfl) ?_
        refine LR.w1 (Y.geq rfl rfl rfl) ?_
        refine LR.w1 (Y.move rfl rfl) ?_
        refine LR.splitp (d := 38) rfl (fun g38 => ?_) (fun g38 => ?_)
        ·
         refine LR.w1 (Y.move rfl rfl) ?_
         refine LR.w1 (Y.leq rfl rfl rfl) ?_
         refine LR.w1 (Y.pick_t rfl rfl rfl) ?_
         refine LR.v1 (Y.pick_f rfl rfl rfl) ?_
         refine LR.m1 ?_
         refine LR.splitp (d := 43) rfl (fun g43 => ?_) (fun g43 => ?_)
         ·
          refine LR.g1 ?_
          refine LR.g1 ?_
          refine LR.g1 ?_
          refine LR.v1 (Y.pick_t rfl rfl rfl) ?_
          refine LR.v1 (Y.not rfl rfl) (LR.nil (hK17 _ _ ?_))
          refine CW.cond_f rfl ?_
          refine CW.skip (hK15 _ _ (hK14 _ _ (CW.region ?_)))
          refine LR.v1 (Y.addi rfl rfl rfl (by omega)) ?_
          refine LR.m1 (LR.nil ?_)
          have hci : okc l[i] = true := (okc_iff _).2 (by simp at *; omega)
          refine QN.sub (hN11 (i + 1) _ ?_ ?_) ⟨rfl, (iv (by omega)), (iv (by omega)), trivial⟩
          · exact ⟨(by omega), (fun q h h2 => by rcases Nat.lt_or_ge q i with h5 | h5; exact hok q h h5; (obtain rfl : q = i := by omega); exact hci), hlm1⟩
          · first | omega | (simp only; omega) | (simp; omega)
         ·
          refine LR.w1 (Y.move rfl rfl) ?_
          refine LR.call rfl c'167 rfl (Wd.g rfl rfl rfl) rfl rfl (idx_ct [46, 95, 45, 47] l[i] w0 _) (fun v45 H45 r45 => ?_)
          obtain ⟨rfl, hs45⟩ := r45
          replace hm0 := hm0.tr hs45
          replace hlm1 := hlm1.tr hs45
          have hz5 := hs45.size
          refine LR.w1 (Y.geq rfl rfl rfl) ?_
          refine LR.v1 (Y.pick_f rfl rfl rfl) ?_
          refine LR.v1 (Y.notp rfl rfl) (LR.nil (hK17 _ _ ?_))
          refine CW.condp rfl (fun c48 => ?_) (fun c48 => ?_)
          ·
           refine CW.s1 (fun hK18 => CW.region ?_)
           refine LR.a1 (LR.nil (hK18 _ _ ?_))
           refine CW.ret (hE15 .ret nofun (by simp) _ _ (hE14 .ret nofun _ _ (hE11 .ret nofun _ _ (hE10 .ret nofun (by simp) _ _ (hE8 .ret nofun _ _ (hret .ret (.inr rfl) _ _ _ (res1 rfl rfl) ?_))))))
           exact ⟨congrArg Value.bool (nameF (fun h => by have h9 := (okc_iff _).1 (h.2.2.2.2 i hil); simp at *; omega)).symm, hm0⟩
          ·
           refine CW.skip (hK15 _ _ (hK14 _ _ (CW.region ?_)))
           refine LR.v1 (Y.addi rfl rfl rfl (by omega)) ?_
           refine LR.m1 (LR.nil ?_)
           have hci : okc l[i] = true := (okc_iff _).2 (by simp at *; omega)
           refine QN.sub (hN11 (i + 1) _ ?_ ?_) ⟨rfl, (iv (by omega)), (iv (by omega)), trivial⟩
           · exact ⟨(by omega), (fun q h h2 => by rcases Nat.lt_or_ge q i with h5 | h5; exact hok q h h5; (obtain rfl : q = i := by omega); exact hci), hlm1⟩
           · first | omega | (simp only; omega) | (simp; omega)
        ·
         refine LR.g1 ?_
         refine LR.g1 ?_
         refine LR.w1 (Y.pick_f rfl rfl rfl) ?_
         refine LR.v1 (Y.pick_f rfl rfl rfl) ?_
         refine LR.m1 ?_
         refine LR.w1 (Y.move rfl rfl) ?_
         refine LR.call rfl c'167 rfl (Wd.g rfl rfl rfl) rfl rfl (idx_ct [46, 95, 45, 47] l[i] w0 _) (fun v45 H45 r45 => ?_)
         obtain ⟨rfl, hs45⟩ := r45
         replace hm0 := hm0.tr hs45
         replace hlm1 := hlm1.tr hs45
         have hz6 := hs45.size
         refine LR.w1 (Y.geq rfl rfl rfl) ?_
         refine LR.v1 (Y.pick_f rfl rfl rfl) ?_
         refine LR.v1 (Y.notp rfl rfl) (LR.nil (hK17 _ _ ?_))
         refine CW.condp rfl (fun c48 => ?_) (fun c48 => ?_)
         ·
          refine CW.s1 (fun hK19 => CW.region ?_)
          refine LR.a1 (LR.nil (hK19 _ _ ?_))
          refine CW.ret (hE15 .ret nofun (by simp) _ _ (hE14 .ret nofun _ _ (hE11 .ret nofun _ _ (hE10 .ret nofun (by simp) _ _ (hE8 .ret nofun _ _ (hret .ret (.inr rfl) _ _ _ (res1 rfl rfl) ?_))))))
          exact ⟨congrArg Value.bool (nameF (fun h => by have h9 := (okc_iff _).1 (h.2.2.2.2 i hil); simp at *; omega)).symm, hm0⟩
         ·
          refine CW.skip (hK15 _ _ (hK14 _ _ (CW.region ?_)))
          refine LR.v1 (Y.addi rfl rfl rfl (by omega)) ?_
          refine LR.m1 (LR.nil ?_)
          have hci : okc l[i] = true := (okc_iff _).2 (by simp at *; omega)
          refine QN.sub (hN11 (i + 1) _ ?_ ?_) ⟨rfl, (iv (by omega)), (iv (by omega)), trivial⟩
          · exact ⟨(by omega), (fun q h h2 => by rcases Nat.lt_or_ge q i with h5 | h5; exact hok q h h5; (obtain rfl : q = i := by omega); exact hci), hlm1⟩
          · first | omega | (simp only; omega) | (simp; omega)
      ·
       refine LR.g1 ?_
       refine LR.g1 ?_
       refine LR.v1 (Y.pick_f rfl rfl rfl) ?_
       refine LR.m1 ?_
       refine LR.w1 (Y.move rfl rfl) ?_
       refine LR.w1 (Y.geq rfl rfl rfl) ?_
       refine LR.w1 (Y.move rfl rfl) ?_
       refine LR.splitp (d := 38) rfl (fun g38 => ?_) (fun g38 => ?_)
       ·
        refine LR.w1 (Y.move rfl rfl) ?_
        refine LR.w1 (Y.leq rfl rfl rfl) ?_
        refine LR.w1 (Y.pick_t rfl rfl rfl) ?_
        refine LR.v1 (Y.pick_f rfl rfl rfl) ?_
        refine LR.m1 ?_
        refine LR.splitp (d := 43) rfl (fun g43 => ?_) (fun g43 => ?_)
        ·
         refine LR.g1 ?_
         refine LR.g1 ?_
         refine LR.g1 ?_
         refine LR.v1 (Y.pick_t rfl rfl rfl) ?_
         refine LR.v1 (Y.not rfl rfl) (LR.nil (hK17 _ _ ?_))
         refine CW.cond_f rfl ?_
         refine CW.skip (hK15 _ _ (hK14 _ _ (CW.region ?_)))
         refine LR.v1 (Y.addi rfl rfl rfl (by omega)) ?_
         refine LR.m1 (LR.nil ?_)
         have hci : okc l[i] = true := (okc_iff _).2 (by simp at *; omega)
         refine QN.sub (hN11 (i + 1) _ ?_ ?_) ⟨rfl, (iv (by omega)), (iv (by omega)), trivial⟩
         · exact ⟨(by omega), (fun q h h2 => by rcases Nat.lt_or_ge q i with h5 | h5; exact hok q h h5; (obtain rfl : q = i := by omega); exact hci), hlm1⟩
         · first | omega | (simp only; omega) | (simp; omega)
        ·
         refine LR.w1 (Y.move rfl rfl) ?_
         refine LR.call rfl c'167 rfl (Wd.g rfl rfl rfl) rfl rfl (idx_ct [46, 95, 45, 47] l[i] w0 _) (fun v45 H45 r45 => ?_)
         obtain ⟨rfl, hs45⟩ := r45
         replace hm0 := hm0.tr hs45
         replace hlm1 := hlm1.tr hs45
         have hz7 := hs45.size
         refine LR.w1 (Y.geq rfl rfl rfl) ?_
         refine LR.v1 (Y.pick_f rfl rfl rfl) ?_
         refine LR.v1 (Y.notp rfl rfl) (LR.nil (hK17 _ _ ?_))
         refine CW.condp rfl (fun c48 => ?_) (fun c48 => ?_)
         ·
          refine CW.s1 (fun hK20 => CW.region ?_)
          refine LR.a1 (LR.nil (hK20 _ _ ?_))
          refine CW.ret (hE15 .ret nofun (by simp) _ _ (hE14 .ret nofun _ _ (hE11 .ret nofun _ _ (hE10 .ret nofun (by simp) _ _ (hE8 .ret nofun _ _ (hret .ret (.inr rfl) _ _ _ (res1 rfl rfl) ?_))))))
          exact ⟨congrArg Value.bool (nameF (fun h => by have h9 := (okc_iff _).1 (h.2.2.2.2 i hil); simp at *; omega)).symm, hm0⟩
         ·
          refine CW.skip (hK15 _ _ (hK14 _ _ (CW.region ?_)))
          refine LR.v1 (Y.addi rfl rfl rfl (by omega)) ?_
          refine LR.m1 (LR.nil ?_)
          have hci : okc l[i] = true := (okc_iff _).2 (by simp at *; omega)
          refine QN.sub (hN11 (i + 1) _ ?_ ?_) ⟨rfl, (iv (by omega)), (iv (by omega)), trivial⟩
          · exact ⟨(by omega), (fun q h h2 => by rcases Nat.lt_or_ge q i with h5 | h5; exact hok q h h5; (obtain rfl : q = i := by omega); exact hci), hlm1⟩
          · first | omega | (simp only; omega) | (simp; omega)
       ·
        refine LR.g1 ?_
        refine LR.g1 ?_
        refine LR.w1 (Y.pick_f rfl rfl rfl) ?_
        refine LR.v1 (Y.pick_f rfl rfl rfl) ?_
        refine LR.m1 ?_
        refine LR.w1 (Y.move rfl rfl) ?_
        refine LR.call rfl c'167 rfl (Wd.g rfl rfl rfl) rfl rfl (idx_ct [46, 95, 45, 47] l[i] w0 _) (fun v45 H45 r45 => ?_)
        obtain ⟨rfl, hs45⟩ := r45
        replace hm0 := hm0.tr hs45
        replace hlm1 := hlm1.tr hs45
        have hz8 := hs45.size
        refine LR.w1 (Y.geq rfl rfl rfl) ?_
        refine LR.v1 (Y.pick_f rfl rfl rfl) ?_
        refine LR.v1 (Y.notp rfl rfl) (LR.nil (hK17 _ _ ?_))
        refine CW.condp rfl (fun c48 => ?_) (fun c48 => ?_)
        ·
         refine CW.s1 (fun hK21 => CW.region ?_)
         refine LR.a1 (LR.nil (hK21 _ _ ?_))
         refine CW.ret (hE15 .ret nofun (by simp) _ _ (hE14 .ret nofun _ _ (hE11 .ret nofun _ _ (hE10 .ret nofun (by simp) _ _ (hE8 .ret nofun _ _ (hret .ret (.inr rfl) _ _ _ (res1 rfl rfl) ?_))))))
         exact ⟨congrArg Value.bool (nameF (fun h => by have h9 := (okc_iff _).1 (h.2.2.2.2 i hil); simp at *; omega)).symm, hm0⟩
        ·
         refine CW.skip (hK15 _ _ (hK14 _ _ (CW.region ?_)))
         refine LR.v1 (Y.addi rfl rfl rfl (by omega)) ?_
         refine LR.m1 (LR.nil ?_)
         have hci : okc l[i] = true := (okc_iff _).2 (by simp at *; omega)
         refine QN.sub (hN11 (i + 1) _ ?_ ?_) ⟨rfl, (iv (by omega)), (iv (by omega)), trivial⟩
         · exact ⟨(by omega), (fun q h h2 => by rcases Nat.lt_or_ge q i with h5 | h5; exact hok q h h5; (obtain rfl : q = i := by omega); exact hci), hlm1⟩
         · first | omega | (simp only; omega) | (simp; omega)
     ·
      refine CW.exit (hE13 (.exit 0) nofun _ _ (hE11 (.exit 0) nofun _ _ (hX10 _ _ ?_)))
      refine hK8 _ _ (CW.s1 (fun hK22 => CW.region ?_))
      refine LR.a1 (LR.nil (hK22 _ _ ?_))
      refine CW.ret (hret .ret (.inr rfl) _ _ _ (res1 rfl rfl) ?_)
      obtain rfl : i = l.length := by omega
      exact ⟨congrArg Value.bool ((name_iff l).2 ⟨g7, by omega, by simpa using g18, by simpa using c21, fun i h => hok i h h⟩).symm, hm0⟩
theorem dir_ct (mx_ : Int) (l : List UInt8) (w0 : World) (H0 : Heap)
 (mx : MX mx_ H0) (bf_mx : BF (fun b => b = 0) H0.size) (hl : l.length ≤ 4294967280) :
 Ct Tryz.prog w0 177 #[Str l] H0 (fun r H2 => r = Str (dirP l) ∧ Nw H0 H2) := by
 refine Ct.enter (args := [Str l]) Tryz.func177 rfl rfl rfl ?_
 intro Q0 hret
 have hm0 : Nw H0 H0 := Mo.refl _ _
 refine CW.s1 (fun hK1 => CW.region ?_)
 refine LR.a1 (LR.nil (hK1 _ _ ?_))
 refine CW.s2 (fun hK2 hE2 => CW.s1 (fun hK3 => CW.region ?_))
 refine LR.m1 ?_
 refine LR.call rfl c'88 rfl (Wd.u rfl) rfl rfl (name_ct mx_ l w0 _ mx (bf_mx.mono (by omega)) hl) (fun v4 H4 r4 => ?_)
 obtain ⟨rfl, hs4⟩ := r4
 replace hm0 := hm0.tr hs4
 have hz1 := hs4.size
 refine LR.v1 (Y.not rfl rfl) (LR.nil (hK3 _ _ ?_))
 refine CW.cond rfl (fun c5 => ?_) (fun c5 => ?_)
 ·
  refine CW.s1 (fun hK4 => CW.region ?_)
  refine LR.a1 (LR.nil (hK4 _ _ ?_))
  refine CW.ret (hE2 .ret nofun _ _ (hret .ret (.inr rfl) _ _ _ (res1 rfl rfl) ?_))
  exact ⟨by rw [dirP, if_neg (by simpa using c5)]; rfl, hm0⟩
 ·
  refine CW.skip (hK2 _ _ (CW.s1 (fun hK5 => CW.region ?_)))
  refine LR.m1 ?_
  refine LR.m1 ?_
  refine LR.call rfl c'223 rfl (Wd.u rfl) rfl rfl (lix_ct l w0 _ (by omega)) (fun v8 H8 r8 => ?_)
  obtain ⟨j8, rfl, hj8, hl8, hs8⟩ := r8
  replace hm0 := hm0.tr hs8
  have hz2 := hs8.size
  refine LR.v1 (Y.cast (v2 := .int .i64 ((j8 - 1 : Nat) : Int)) (Y.maxi rfl rfl rfl) (ivv (by omega))) ?_
  refine LR.v1 (Y.sslice (0) (j8 - 1) rfl u'9 rfl (.inl ⟨rfl, rfl⟩) (.inr ⟨_, _, _, rfl, rfl, by first | rfl | omega⟩) (by omega) (by omega)) ?_
  refine LR.a1 (LR.nil (hK5 _ _ ?_))
  refine CW.ret (hret .ret (.inr rfl) _ _ _ (res1 rfl rfl) ?_)
  exact ⟨by rw [dirP, if_pos (by simpa using c5), head_of hj8 hl8]; simp, hm0⟩
end Go.Proofs.YtfjmpninmdjcaaaGreatDoor.SimA

namespace Go.Proofs.YtfjmpninmdjcaaaGreatDoor.E
open Go.ChangeShapes Go.WideShapes Go.ChangeAt Go.RowKit Go.Deep
theorem list_of {α : Type} {n : Nat} {p : Nat → α → Prop} (h : ∀ i, i < n → ∃ x, p i x) : ∃ l : List α, l.length = n ∧ ∀ i x, l[i]? = some x → p i x := by
 induction n with
 | zero => exact ⟨[], rfl, fun i x h => by simp at h⟩
 | succ n ih =>
   obtain ⟨l, hl, hp⟩ := ih (fun i hi => h i (by omega))
   obtain ⟨x, hx⟩ := h n (by omega)
   refine ⟨l ++ [x], by simp [hl], fun i y hy => ?_⟩
   by_cases hi : i < l.length
   · rw [List.getElem?_append_left hi] at hy; exact hp i y hy
   · rw [List.getElem?_append_right (by omega)] at hy
     have : i - l.length = 0 := by have := (List.getElem?_eq_some_iff.1 hy).1; simp at this; omega
     rw [this] at hy
     simp only [List.getElem?_cons_zero, Option.some.injEq] at hy
     subst hy
     have : i = n := by omega
     subst this; exact hx
section
variable {H : Type} {enc : TypeId × Value → H} {P : Program} {W : World} {base : Nat} {sp : Nat → Bool} {held : Bool}
theorem u8_of {x : Int} (h : (Lit.int .u8 x).wf = true) : ∃ b : UInt8, x = b.toNat := by
 simp only [Lit.wf, Bool.and_eq_true, decide_eq_true_eq, show IntKind.u8.min = 0 by decide, show IntKind.u8.max = 255 by decide] at h
 refine ⟨UInt8.ofNat x.toNat, ?_⟩
 rw [UInt8.toNat_ofNat']
 omega
theorem i64_of {x : Int} (h : (Lit.int .i64 x).wf = true) : -9223372036854775808 ≤ x ∧ x ≤ 9223372036854775807 := by
 simpa only [Lit.wf, Bool.and_eq_true, decide_eq_true_eq, show IntKind.i64.min = -9223372036854775808 by decide, show IntKind.i64.max = 9223372036854775807 by decide] using h
abbrev fP {β : Type} (x : SV × β) : List Value := [x.1.v]
theorem fP_len {β : Type} (x : SV × β) : (fP x).length = 1 := rfl
theorem fP_one {β : Type} (x : SV × β) : ∀ u ∈ fP x, u.oneCell' = true := by intro u hu; simp only [List.mem_singleton] at hu; subst hu; rfl
end
end Go.Proofs.YtfjmpninmdjcaaaGreatDoor.E

namespace Go.Proofs.YtfjmpninmdjcaaaGreatDoor.E
open Go.Lib
section
variable {P : Program} {w0 : World} {n : Nat} {l : FL} {H : Heap} {o : Oper} {α : Type} {f : α → List Value} {sz : Nat} {v : Value} {e : TypeId}
theorem zeroCells_rep' {z : Value} {z0 : α} (h : z.cells.toList = f z0) : ∀ m, (Builtin.zeroCells z.cells m).toList = (List.replicate m z0).flatMap f := by
 have hl : (f z0).length = z.cells.size := by rw [← h, Array.length_toList]
 have e0 : ∀ m, (Builtin.zeroCells z.cells m).toList = (List.range (m * z.cells.size)).map (fun i => z.cells[i % z.cells.size]!) := fun m => by
  unfold Builtin.zeroCells
  rw [Array.toList_map, Array.toList_range]
 have e1 : (List.range z.cells.size).map (fun i => z.cells[i % z.cells.size]!) = f z0 := by
  rw [← h]
  apply List.ext_getElem
  · simp
  · intro j h1 h2
    have hj : j < z.cells.size := by simpa using h1
    simp [Nat.mod_eq_of_lt hj, getElem!_pos z.cells j hj]
 intro m
 rw [e0]
 induction m with
 | zero => simp
 | succ m ih =>
   rw [Nat.succ_mul, Nat.add_comm, List.range_add, List.map_append, List.map_map, e1, List.replicate_succ, List.flatMap_cons, ← ih]
   congr 1
   apply List.map_congr_left
   intro j _
   simp
theorem Z.apzOwn {G : Nat → Prop} {xs : List α} {s x : Operand} {t tn : TypeId} {kn kq : IntKind} {bytes m : Nat} {zv : Value} (h : Own G e H f sz v xs) (z0 : α) (ho : o.op = .call { callee := .builtin .append, args := #[s, x], argTypes := #[t, tn] })
 (hinf : Inf P t e sz bytes) (htn : P.underlying tn = some (.int kn)) (hzv : ∀ w, (zeroValue e).run P w = .ok zv w) (hz0 : zv.cells.toList = f z0) (hs0 : 0 < sz) (hs : opv l s = some v) (hx : opv l x = some (.int kq (m : Nat)))
 (hb : (xs.length + m) * bytes ≤ 140737488355328) (hm : xs.length + m ≤ 9223372036854775807) :
 Z P w0 n l H o (fun r H' => Own (fun b => G b ∨ H.size ≤ b) e H' f sz r (xs ++ List.replicate m z0) ∧ Mo G H H') := by
 obtain ⟨ht, i, z, hi, hz, hsz, hby, hzs⟩ := hinf
 subst hsz
 subst hby
 intro a w hf ha
 have hzz : z = zv := by
  have h1 := hzv w
  simp [zeroValue, typeInfo, hi, hz] at h1
  exact h1
 subst hzz
 have hl : ((List.replicate m z0).flatMap f).length = m * i.size := by rw [length_flatMap h.cells, List.length_replicate]
 have h1 : ∀ c ∈ (List.replicate m z0).flatMap f, c.oneCell' = true := by
  intro c hc
  obtain ⟨y, hy, hc⟩ := List.mem_flatMap.1 hc
  exact h.one y c hc
 have hzc : Builtin.zeroCells z.cells m = ((List.replicate m z0).flatMap f).toArray := by apply Array.ext'; rw [zeroCells_rep' hz0]
 have hw : IntKind.i64.wrap (m : Int) = m := by rw [IntKind.wrap_i64]; omega
 have hneg : ¬ ((m : Int) < 0) := by omega
 have h48i : ¬ (281474976710656 < (m : Int) * (i.bytes : Int)) := by
  have : m * i.bytes ≤ (xs.length + m) * i.bytes := Nat.mul_le_mul_right _ (by omega)
  rw [← Int.natCast_mul]
  omega
 have grown : ∀ (old : Nat) (r : Value), old < xs.length + m → r = .slice (some ⟨w.heap.size, 0, none⟩) (xs.length + m) (grownCap w (xs.length + m) old e) → ∀ ob, ob = Obj.cells ((xs.flatMap f).toArray ++ Builtin.zeroCells z.cells m ++ Builtin.zeroCells z.cells (grownCap w (xs.length + m) old e - (xs.length + m))) e →
  At w0 (w.drew.alloc ob).heap (w.drew.alloc ob) ∧ Own (fun b => G b ∨ H.size ≤ b) e (w.drew.alloc ob).heap f i.size r (xs ++ List.replicate m z0) ∧ Mo G H (w.drew.alloc ob).heap := by
  rintro old r ho' rfl ob rfl
  have hge := grownCap_ge w (xs.length + m) old e
  have hcm : grownCap w (xs.length + m) old e ≤ maxLen := grownCap_le_maxLen w (xs.length + m) old e (by unfold maxLen; omega)
  have ha2 : At w0 H w.drew := ha.drew
  refine ⟨⟨rfl, ha.os, ha.tape, ha.output, ha2.dr⟩, ?_, ?_⟩
  · have := Own.new (e := e) (G' := fun b => G b ∨ H.size ≤ b) (w := w.drew) (z := z) (cap := grownCap w (xs.length + m) old e) (zs := xs ++ List.replicate m z0) h.cells h.one hzs (.inr (by rw [ha2.heap]; exact Nat.le_refl _)) (by simpa using hge) hcm
    rw [hzc]
    simpa using this
  · rw [(ha2.alloc _).heap]; exact Mo.push _ _ _
 rcases h.ex with ⟨rfl, rfl⟩ | ⟨g, cap', cur, rfl, hg, hh, r1, r2, r3, r4⟩
 · by_cases hm0 : m = 0
   · subst hm0
     refine ⟨.slice none 0 0, H, w, ?_, ha, by simpa using h.imp (fun b _ hg => .inl hg), Mo.refl _ _⟩
     simp [execOp, ho, resolve, invoke, builtin, hf.eval hs, hf.eval hx, Builtin.append_, run_underlying ht, run_underlying htn, sizeOf, typeInfo, hi, asInt, asIntOf, IntKind.wrap_i64]
   · simp only [List.length_nil, Nat.zero_add] at hb hm
     have hrun := run_append_nil_zeros (P := P) w t tn o.type e i z kq kn ht htn hi hz m (by omega) hs0 (by omega) (by omega)
     have := grown 0 _ (by simp; omega) rfl _ rfl
     simp only [List.length_nil, Nat.zero_add, List.flatMap_nil, List.nil_append, Array.empty_append] at this
     exact ⟨_, _, _, by simp [execOp, ho, resolve, invoke, builtin, hf.eval hs, hf.eval hx, hrun], this.1, this.2.1, this.2.2⟩
 · obtain ⟨fz, hh0, hsf⟩ := id hh
   have hg' : w.heap[g]? = some (.cells cur e fz) := by rw [ha.heap]; exact hh0
   by_cases hroom : xs.length + m ≤ cap'
   · have hfit : xs.length * i.size + ((List.replicate m z0).flatMap f).length ≤ cur.size := by rw [hl, r3, ← Nat.add_mul]; exact Nat.mul_le_mul_right _ hroom
     have hst := run_storeCells_soft P g (xs.length * i.size) e fz ((List.replicate m z0).flatMap f) 0 cur w hg' hsf (by simpa using hfit) h1
     simp only [Nat.add_zero] at hst
     have hrun : (Builtin.append_ #[t, tn] o.type #[.slice (some ⟨g, 0, none⟩) xs.length cap', .int kq m]).run P w = .ok (.slice (some ⟨g, 0, none⟩) (xs.length + m) cap') (w.setRow g (cur.toList.take (xs.length * i.size) ++ (List.replicate m z0).flatMap f ++ cur.toList.drop (xs.length * i.size + ((List.replicate m z0).flatMap f).length)).toArray) := by
      by_cases hm0 : m = 0
      · subst hm0
        simp only [List.replicate_zero, List.flatMap_nil] at hst
        simp [Builtin.append_, run_underlying ht, run_underlying htn, sizeOf, typeInfo, hi, asInt, asIntOf, IntKind.wrap_i64, r1, Addr.add_lit, hst]
      · have hns : ¬ (m * i.size = 0) := Nat.mul_ne_zero hm0 (by omega)
        simp [Builtin.append_, run_underlying ht, run_underlying htn, sizeOf, typeInfo, zeroValue, hi, hz, asInt, asIntOf, hw, hneg, h48i, hns, hroom, hzc, Addr.add_lit, hst]
     refine ⟨.slice (some ⟨g, 0, none⟩) (xs.length + m) cap', (w.setRow g (cur.toList.take (xs.length * i.size) ++ (List.replicate m z0).flatMap f ++ cur.toList.drop (xs.length * i.size + ((List.replicate m z0).flatMap f).length)).toArray).heap, w.setRow g (cur.toList.take (xs.length * i.size) ++ (List.replicate m z0).flatMap f ++ cur.toList.drop (xs.length * i.size + ((List.replicate m z0).flatMap f).length)).toArray, by simp [execOp, ho, resolve, invoke, builtin, hf.eval hs, hf.eval hx, hrun], ⟨rfl, ha.os, ha.tape, ha.output, ha.dr⟩, ⟨h.cells, h.one, .inr ⟨g, cap', _, by rw [List.length_append, List.length_replicate], .inl hg, ⟨fz, setRow_heap w g cur _ e _ hg', hsf.1, fun i hi => hsf.2 i (by simp only [List.size_toArray, List.length_append, List.length_take, List.length_drop, Array.length_toList] at hi; omega)⟩, by rw [List.length_append, List.length_replicate]; exact hroom, r2, ?_, ?_⟩⟩, ?_⟩
     · simp only [List.size_toArray, List.length_append, List.length_take, List.length_drop, Array.length_toList]
       omega
     · have hlx := length_flatMap h.cells xs
       rw [r4, ← List.flatMap_append, List.length_append, Nat.add_mul, List.length_replicate, ← hl, ← hlx, ← List.length_append, ← List.flatMap_append]
       exact List.take_left
     · exact (setRow_mo ha g _).weaken (fun b _ e => by rw [e]; exact hg)
   · have holds : ∀ j c, (xs.flatMap f)[j]? = some c → w.drew.cell? ((⟨g, 0, none⟩ : Addr).add j) = some c := h.rd.pts h.cells rfl ha.drew
     have hold : (Builtin.firstCells i.size xs.length (.slice (some ⟨g, 0, none⟩) xs.length cap')).run P w.drew = .ok (xs.flatMap f).toArray w.drew := run_firstCells_some (P := P) w.drew i.size xs.length ⟨g, 0, none⟩ xs.length cap' _ (length_flatMap h.cells xs) holds
     have hrun := Lib.run_append_grow_zeros (P := P) w t tn o.type e i z kq kn ht htn hi hz (some ⟨g, 0, none⟩) xs.length cap' (xs.flatMap f) hold m (by omega) hs0 (by omega) (by omega) (by
      have : m * i.bytes ≤ (xs.length + m) * i.bytes := Nat.mul_le_mul_right _ (by omega)
      omega) (growslice_fits (by omega) hb)
     have := grown cap' _ (by omega) rfl _ rfl
     exact ⟨_, _, _, by simp [execOp, ho, resolve, invoke, builtin, hf.eval hs, hf.eval hx, hrun], this.1, this.2.1, this.2.2⟩
theorem Z.apz {k : Nat} {xs : List α} {s x : Operand} {t tn : TypeId} {kn kq : IntKind} {bytes m : Nat} {zv : Value} (h : Ow k e H f sz v xs) (z0 : α) (ho : o.op = .call { callee := .builtin .append, args := #[s, x], argTypes := #[t, tn] })
 (hinf : Inf P t e sz bytes) (htn : P.underlying tn = some (.int kn)) (hzv : ∀ w, (zeroValue e).run P w = .ok zv w) (hz0 : zv.cells.toList = f z0) (hs0 : 0 < sz) (hs : opv l s = some v) (hx : opv l x = some (.int kq (m : Nat)))
 (hb : (xs.length + m) * bytes ≤ 140737488355328) (hm : xs.length + m ≤ 9223372036854775807) :
 Z P w0 n l H o (fun r H' => ∃ k', Ow k' e H' f sz r (xs ++ List.replicate m z0) ∧ (k' = 0 ∨ k' = k ∨ H.size < k') ∧ Mo (fun b => b + 1 = k) H H') :=
 (Z.apzOwn h.own z0 ho hinf htn hzv hz0 hs0 hs hx hb hm).mono fun r H' ⟨h1, h2⟩ => by
  obtain ⟨k', h3, h4⟩ := Ow.of h1
  refine ⟨k', h3, ?_, h2⟩
  rcases h4 with rfl | ⟨g, rfl, h5⟩
  · exact .inl rfl
  · omega
theorem Y.sliceV' {x : Operand} {lo hi : Option Operand} {t e : TypeId} {a : Option Addr} {len cap sz : Nat} (i j : Nat) (ho : o.op = .slice t x lo hi none) (ht : ∀ w, (underlying t).run P w = .ok (.slice e) w) (hs : ∀ w, (sizeOf e).run P w = .ok sz w) (hx : opv l x = some (.slice a len cap))
 (hlo : lo = none ∧ i = 0 ∨ ∃ p k iv, lo = some p ∧ opv l p = some (.int k iv) ∧ iv = (i : Int)) (hhi : hi = none ∧ j = len ∨ ∃ p k iv, hi = some p ∧ opv l p = some (.int k iv) ∧ iv = (j : Int)) (hij : i ≤ j) (hj : j ≤ cap) :
 Y P w0 n l H o (.slice (if cap = i then a else a.map (·.add (i * sz))) (j - i) (cap - i)) := by
 intro ac w hf ha
 have e1 : ∀ w, (Instr.sliceBounds true len cap (lo.map ac.eval) (hi.map ac.eval) none).run P w = .ok (i, j, cap) w := by
  intro w
  rcases hlo with ⟨rfl, rfl⟩ | ⟨p, k, iv, rfl, h1, rfl⟩ <;> rcases hhi with ⟨rfl, rfl⟩ | ⟨p2, k2, iv2, rfl, h3, rfl⟩ <;>
   simp [Instr.sliceBounds, Instr.sliceBound, asIntOf, hf.eval, *]
 have hu : ∀ w, (underlying t).run P w = .ok (.slice e) w := ht
 simp [execOp, ho, hf.eval hx, Instr.sliceAt, Instr.slice, hu, hs, e1]
theorem Y.capV' {x : Operand} {t e : TypeId} {a : Option Addr} {len cap : Nat} (ho : o.op = .call { callee := .builtin .cap, args := #[x], argTypes := #[t] }) (ht : ∀ w, (underlying t).run P w = .ok (.slice e) w) (hx : opv l x = some (.slice a len cap)) : Y P w0 n l H o (.int .i64 cap) := by
 intro ac w hf ha
 simp [execOp, ho, hf.eval hx, resolve, invoke, builtin, Builtin.cap_, ht, goInt]
end
end Go.Proofs.YtfjmpninmdjcaaaGreatDoor.E

namespace Go.Proofs.YtfjmpninmdjcaaaGreatDoor.SimB
open E Go.RowKit SimA
set_option maxRecDepth 20000
set_option maxRecDepth 100000 in
theorem inf57 : Inf Tryz.prog 57 5 1 1 := ⟨Tryz.underlying57, _, _, rfl, rfl, rfl, rfl, rfl⟩
set_option maxRecDepth 100000 in
theorem inf104 : Inf Tryz.prog 104 57 1 24 := ⟨Tryz.underlying104, _, _, rfl, rfl, rfl, rfl, rfl⟩
theorem bclone_ct (v1 : Value) (a : List UInt8) (w0 : World) (H0 : Heap)
 (ha : RdT H0 fB 1 v1 a) (hal : a.length ≤ 140737488355328) :
 Ct Tryz.prog w0 59 #[v1] H0 (fun r H2 => ∃ s : SV, ∃ k : Nat, r = s.v ∧ (Ow k 5 H2 fB 1 s.v a) ∧ (Nx 0 H0.size k) ∧ Nw H0 H2) := by
 refine Ct.enter (args := [v1]) Tryz.func59 rfl rfl rfl ?_
 intro Q0 hret
 have hm0 : Nw H0 H0 := Mo.refl _ _
 replace ha := ha.bnd
 obtain ⟨p, cp, rfl, _, _, hne⟩ := id ha.ex
 refine CW.s1 (fun hK1 => CW.region ?_)
 refine LR.a1 (LR.nil (hK1 _ _ ?_))
 refine CW.s2 (fun hK2 hE2 => CW.s1 (fun hK3 => CW.region ?_))
 refine LR.m1 ?_
 refine LR.v1 (Y.sleq rfl Tryz.underlying57 rfl rfl) (LR.nil (hK3 _ _ ?_))
 refine CW.cond rfl (fun c4 => ?_) (fun c4 => ?_)
 ·
  obtain rfl : a = [] := by
   apply Decidable.byContradiction
   intro h
   obtain ⟨ad, h1, _⟩ := hne h
   rw [h1] at c4; cases c4
  refine CW.s1 (fun hK4 => CW.region ?_)
  refine LR.a1 (LR.nil (hK4 _ _ ?_))
  refine CW.ret (hE2 .ret nofun _ _ (hret .ret (.inr rfl) _ _ _ (res1 rfl rfl) ?_))
  exact ⟨⟨none, 0, 0⟩, 0, rfl, Ow.nil fB_len fB_one, Nx.refl _ _, hm0⟩
 ·
  refine CW.skip (hK2 _ _ (CW.s1 (fun hK5 => CW.region ?_)))
  refine LR.z1 (Z.litw _ (([] : List UInt8)) rfl inf57 rfl rfl rfl (by decide) (by decide) fB_len fB_one (rfl)) fun v5 H5 r5 => ?_
  obtain ⟨ow5, hs5, ob5, hH5⟩ := r5
  have hzs5 : H5.size = H0.size + 1 := by rw [hH5]; simp
  have nx2 : Nx 0 H0.size (H0.size + 1) := Nx.new hm0.size
  replace ha := ha.nw hs5
  replace hm0 := hm0.tr hs5
  have hz1 := hs5.size
  refine LR.m1 ?_
  refine LR.z1 (Z.apnd ow5 ha rfl inf57 rfl rfl (by first | omega | (simp; omega)) (by first | omega | (simp; omega))) fun v7 H7 r7 => ?_
  obtain ⟨k7, ow7, hk7, hs7⟩ := r7
  replace hk7 : Nx (H0.size + 1) H5.size k7 := hk7
  replace hs7 := hs7.md
  have nx4 : Nx 0 H0.size k7 := Nx.tr (nx2) hk7 hm0.size
  replace hm0 := hm0.tq hs7 (MIL.o (MI.q nx2))
  refine LR.a1 (LR.nil (hK5 _ _ ?_))
  refine CW.ret (hret .ret (.inr rfl) _ _ _ (res1 rfl rfl) ?_)
  obtain ⟨s7, rfl⟩ : ∃ s : SV, v7 = s.v := ⟨toSV v7, ow7.sv.symm⟩
  exact ⟨s7, k7, rfl, by simpa using ow7, nx4, hm0⟩
def catP (l : List (SV × List UInt8)) : List UInt8 := l.flatMap (·.2)
theorem catP_take {l : List (SV × List UInt8)} {i : Nat} (h : i < l.length) : catP (l.take (i + 1)) = catP (l.take i) ++ l[i].2 := by
 unfold catP; rw [List.take_succ_eq_append_getElem h, List.flatMap_append]; simp
theorem catP_le (l : List (SV × List UInt8)) (i : Nat) : (catP (l.take i)).length ≤ (catP l).length := by
 have : catP l = catP (l.take i) ++ catP (l.drop i) := by unfold catP; rw [← List.flatMap_append, List.take_append_drop]
 rw [this, List.length_append]; omega
theorem catP_at {l : List (SV × List UInt8)} {i : Nat} (h : i < l.length) : (catP (l.take i)).length + l[i].2.length ≤ (catP l).length := by
 have := catP_le l (i + 1)
 rw [catP_take h, List.length_append] at this; exact this
theorem grow_ct (m : Nat) (w0 : World) (H0 : Heap)
 (hm : m ≤ 1099511627776) :
 Ct Tryz.prog w0 227 #[.slice none 0 0, .int .i64 (m : Int)] H0 (fun r H2 => ∃ s : SV, ∃ k : Nat, r = s.v ∧ (Ow k 5 H2 fB 1 s.v []) ∧ (Nx 0 H0.size k) ∧ Nw H0 H2) := by
 refine Ct.enter (args := [.slice none 0 0, .int .i64 (m : Int)]) Tryz.func227 rfl rfl rfl ?_
 intro Q0 hret
 have hm0 : Nw H0 H0 := Mo.refl _ _
 refine CW.s1 (fun hK1 => CW.region ?_)
 refine LR.a1 (LR.nil (hK1 _ _ ?_))
 refine CW.s1 (fun hK2 => CW.s1 (fun hK3 => CW.region ?_))
 refine LR.m1 ?_
 refine LR.v1 ((Y.lss rfl rfl rfl).isF (by omega)) (LR.nil (hK3 _ _ ?_))
 refine CW.cond_f rfl ?_
 refine CW.skip (hK2 _ _ (CW.s1 (fun hK4 => CW.s1 (fun hK5 => CW.region ?_))))
 refine LR.m1 ?_
 refine LR.m1 ?_
 refine LR.v1 (Y.capV' rfl u'57 rfl) ?_
 refine LR.m1 ?_
 refine LR.v1 (Y.cast (v2 := .int .i64 ((0 : Nat) : Int)) (Y.len (Rd.nil (fun _ => False) _ fB 1) rfl u'57 rfl) (rfl)) ?_
 refine LR.v1 (Y.cast (v2 := .int .i64 ((0 : Nat) : Int)) (Y.subi rfl rfl rfl (by omega)) (rfl)) ?_
 refine LR.v1 (Y.cast (v2 := .int .i64 (m : Int)) (Y.subi rfl rfl rfl (by omega)) (ivv (by simp))) ?_
 refine LR.a1 (LR.nil (hK5 _ _ ?_))
 refine CW.s1 (fun hK6 => CW.region ?_)
 refine LR.m1 ?_
 refine LR.v1 (Y.gtr rfl rfl rfl) (LR.nil (hK6 _ _ ?_))
 refine CW.condp rfl (fun c16 => ?_) (fun c16 => ?_)
 ·
  refine CW.region ?_
  refine LR.m1 ?_
  refine LR.m1 ?_
  refine LR.v1 (Y.capV' rfl u'57 rfl) ?_
  refine LR.v1 (Y.sliceV' 0 0 rfl u'57 s'5 rfl (.inl ⟨rfl, rfl⟩) (.inr ⟨_, _, _, rfl, rfl, rfl⟩) (by omega) (by omega)) ?_
  refine LR.m1 ?_
  have nl22 : Ow 0 5 H0 fB 1 (.slice none 0 0) [] := Ow.nil fB_len fB_one
  refine LR.z1 (Z.apz (m := m) nl22 (0 : UInt8) rfl inf57 Tryz.underlying3 z'5 rfl (by decide) rfl rfl (by simp; omega) (by simp; omega)) fun v22 H22 r22 => ?_
  obtain ⟨k22, ow22, hk22, hs22⟩ := r22
  replace hk22 : Nx 0 H0.size k22 := hk22
  replace hs22 := hs22.md
  have nx1 : Nx 0 H0.size k22 := Nx.tr (Nx.refl 0 _) hk22 hm0.size
  replace hm0 := hm0.tq hs22 (MIL.cons MI.z MIL.nil)
  have hz1 := hs22.size
  have hle_ow22 := ow22.le
  refine LR.m1 ?_
  refine LR.v1 (Y.cast (v2 := .int .i64 ((0 : Nat) : Int)) (Y.len (Rd.nil (fun _ => False) _ fB 1) rfl u'57 rfl) (rfl)) ?_
  refine LR.e1 (g := fun v => v) (Y.owFront ow22 (0) rfl u'57 s'5 rfl rfl (by first | rfl | omega) (by omega)) fun v25 ow25 => ?_
  refine LR.a1 (LR.nil (hK4 _ _ ?_))
  refine CW.s1 (fun hK7 => CW.region ?_)
  refine LR.m1 ?_
  refine LR.a1 (LR.nil (hK7 _ _ ?_))
  refine CW.ret (hret .ret (.inr rfl) _ _ _ (res1 rfl rfl) ?_)
  obtain ⟨s25, rfl⟩ : ∃ s : SV, v25 = s.v := ⟨toSV v25, ow25.sv.symm⟩
  exact ⟨s25, k22, rfl, by simpa using ow25, nx1, hm0⟩
 ·
  refine CW.skip (hK4 _ _ (CW.s1 (fun hK8 => CW.region ?_)))
  refine LR.m1 ?_
  refine LR.a1 (LR.nil (hK8 _ _ ?_))
  refine CW.ret (hret .ret (.inr rfl) _ _ _ (res1 rfl rfl) ?_)
  exact ⟨⟨none, 0, 0⟩, 0, rfl, Ow.nil fB_len fB_one, Nx.refl _ _, hm0⟩
theorem concat_ct (v : Value) (l : List (SV × List UInt8)) (w0 : World) (H0 : Heap)
 (hl : RdT H0 fP 1 v l) (hx : ∀ x ∈ l, RdT H0 fB 1 x.1.v x.2) (hc : (catP l).length ≤ 1099511627776) :
 Ct Tryz.prog w0 186 #[v] H0 (fun r H2 => ∃ s : SV, ∃ k : Nat, r = s.v ∧ (Ow k 5 H2 fB 1 s.v (catP l)) ∧ (Nx 0 H0.size k) ∧ Nw H0 H2) := by
 refine Ct.enter (args := [v]) Tryz.func186 rfl rfl rfl ?_
 intro Q0 hret
 have hm0 : Nw H0 H0 := Mo.refl _ _
 replace hl := hl.bnd
 have bf_hl := hl.bf
 replace hx := fun x hx0 => (hx x hx0).bnd
 have bf_hx : BF (fun b => True ∧ b < H0.size) H0.size := fun b h => h.2
 have hlm := hl.len
 refine CW.s1 (fun hK1 => CW.region ?_)
 refine LR.a1 (LR.nil (hK1 _ _ ?_))
 refine CW.s1 (fun hK2 => CW.region ?_)
 refine LR.a1 (LR.nil (hK2 _ _ ?_))
 refine CW.s1 (fun hK3 => CW.s1 (fun hK4 => CW.region ?_))
 refine LR.m1 ?_
 refine LR.v1 (Y.len hl rfl u'104 rfl) ?_
 refine LR.m1 (LR.nil (hK4 _ _ ?_))
 refine CW.block (fun _ _ hX5 _ => ?_)
 refine CW.loop (fun (i : (Nat)) => [(0, v), (3, .int .i64 ((catP (l.take i)).length : Int)), (9, v), (10, .int .i64 l.length), (11, .int .i64 i)])
  (fun (i : (Nat)) (H : Heap) => (i ≤ l.length) ∧ Nw H0 H)
  (fun (i : (Nat)) => l.length - i) 0 ⟨rfl, rfl, rfl, rfl, rfl, trivial⟩ ?_ ?_
 ·
  exact ⟨(by omega), Mo.refl _ _⟩
 intro i HL1 hI1 K6 hN6 hE6
 obtain ⟨hi, hlm1⟩ := hI1
 replace hl := hl.nw hlm1
 replace hx := fun x hx0 => (hx x hx0).nw hlm1
 replace hm0 := hm0.tr hlm1
 have hz1 := hlm1.size
 refine CW.s1 (fun hK7 => CW.region ?_)
 refine LR.v1 (Y.lss rfl rfl rfl) (LR.nil (hK7 _ _ ?_))
 refine CW.s2 (fun hK8 hE8 => ?_)
 refine CW.condp rfl (fun c12 => ?_) (fun c12 => ?_)
 ·
  have hil : i < l.length := by omega
  have hca := catP_at hil
  have hxi := hx l[i] (List.getElem_mem hil)
  refine CW.skip (hK8 _ _ (CW.s1 (fun hK9 => CW.block (fun _ hK10 _ _ => CW.s1 (fun hK11 => CW.region ?_)))))
  refine LR.e1 (g := fun ad => .pointer (some ad)) (Y.iF hl (i) rfl u'104 s'57 rfl rfl) fun ad13 pt13 => ?_
  refine LR.v1 (Y.load1 pt13.pt rfl a'57 rfl) ?_
  refine LR.a1 (LR.nil (hK11 _ _ ?_))
  refine CW.s1 (fun hK12 => CW.region ?_)
  refine LR.m1 ?_
  refine LR.m1 ?_
  refine LR.v1 (Y.len hxi rfl u'57 rfl) ?_
  refine LR.v1 (Y.cast (v2 := .int .i64 ((catP (l.take (i + 1))).length : Int)) (Y.addi rfl rfl rfl (by omega)) (ivv (by rw [catP_take hil, List.length_append]; omega))) ?_
  refine LR.a1 (LR.nil (hK12 _ _ ?_))
  refine CW.s1 (fun hK13 => CW.region ?_)
  refine LR.m1 ?_
  refine LR.v1 ((Y.lss rfl rfl rfl).isF (by omega)) (LR.nil (hK13 _ _ ?_))
  refine CW.cond_f rfl ?_
  refine CW.skip (hK10 _ _ (hK9 _ _ (CW.region ?_)))
  refine LR.v1 (Y.addi rfl rfl rfl (by omega)) ?_
  refine LR.m1 (LR.nil ?_)
  have hci := catP_take hil
  refine QN.sub (hN6 (i + 1) _ ?_ ?_) ⟨rfl, (iv (by omega)), rfl, (iv (by omega)), (iv (by omega)), trivial⟩
  · exact ⟨(by omega), hlm1⟩
  · first | omega | (simp only; omega) | (simp; omega)
 ·
  obtain rfl : i = l.length := by omega
  refine CW.exit (hE8 (.exit 0) nofun _ _ (hE6 (.exit 0) nofun _ _ (hX5 _ _ ?_)))
  refine hK3 _ _ (CW.s1 (fun hK14 => CW.region ?_))
  refine LR.v1 (Y.cast (v2 := .int .i64 ((catP l).length : Int)) (Y.move rfl rfl) (by rw [List.take_length])) ?_
  refine LR.call rfl c'227 rfl (Wd.u rfl) rfl rfl (grow_ct (catP l).length w0 _ hc) (fun v24 H24 r24 => ?_)
  obtain ⟨s24, k24, rfl, ow6, hk24, hs24⟩ := r24
  have df1 := DF.app (DF.z) (bf_hl.mono hm0.size) hk24
  have df2 := DF.app (DF.z) (bf_hx.mono hm0.size) hk24
  have nx3 : Nx 0 H0.size k24 := Nx.tr (Nx.refl 0 _) hk24 hm0.size
  replace hl := hl.nw hs24
  replace hx := fun x hx0 => (hx x hx0).nw hs24
  replace hm0 := hm0.tr hs24
  have hz2 := hs24.size
  have hle_ow6 := ow6.le
  refine LR.a1 (LR.nil (hK14 _ _ ?_))
  refine CW.s1 (fun hK15 => CW.s1 (fun hK16 => CW.region ?_))
  refine LR.m1 ?_
  refine LR.v1 (Y.len hl rfl u'104 rfl) ?_
  refine LR.m1 (LR.nil (hK16 _ _ ?_))
  refine CW.block (fun _ _ hX17 _ => ?_)
  refine CW.loop (fun (s_ : (Nat) × (SV) × (Nat)) => match s_ with | (q, s6, k6) => [(6, s6.v), (25, v), (26, .int .i64 l.length), (27, .int .i64 q)])
   (fun (s_ : (Nat) × (SV) × (Nat)) (H : Heap) => match s_ with | (q, s6, k6) => (q ≤ l.length) ∧ (Ow k6 5 H fB 1 s6.v (catP (l.take q))) ∧ (Nx k24 H24.size k6) ∧ Mo (Ms [k24]) H24 H)
   (fun (s_ : (Nat) × (SV) × (Nat)) => match s_ with | (q, s6, k6) => l.length - q) (0, s24, k24) ⟨rfl, rfl, rfl, rfl, trivial⟩ ?_ ?_
  ·
   exact ⟨(by omega), by simpa [catP] using ow6, Nx.refl _ _, Mo.refl _ _⟩
  rintro ⟨q, s6, k6⟩ HL2 hI2 K18 hN18 hE18
  obtain ⟨hq, ow6, nxl_ow6, hlm2⟩ := hI2
  have df5 := DF.app (df2) (bf_hx.mono hm0.size) nxl_ow6
  have nx6 : Nx 0 H0.size k6 := Nx.tr (nx3) nxl_ow6 hm0.size
  replace hl := hl.upL hlm2 (DFL.o df1)
  replace hx := fun x hx0 => (hx x hx0).upL hlm2 (DFL.o df2)
  replace hm0 := hm0.tq hlm2 (MIL.o (MI.q nx3))
  have hz3 := hlm2.size
  have hle_ow6 := ow6.le
  have nx7 := nxl_ow6
  refine CW.s1 (fun hK19 => CW.region ?_)
  refine LR.v1 (Y.lss rfl rfl rfl) (LR.nil (hK19 _ _ ?_))
  refine CW.s2 (fun hK20 hE20 => ?_)
  refine CW.condp rfl (fun c28 => ?_) (fun c28 => ?_)
  ·
   have hql : q < l.length := by omega
   have hcb := catP_at hql
   have hxq := hx l[q] (List.getElem_mem hql)
   refine CW.skip (hK20 _ _ (CW.s1 (fun hK21 => CW.block (fun _ hK22 _ _ => CW.s1 (fun hK23 => CW.region ?_)))))
   refine LR.e1 (g := fun ad => .pointer (some ad)) (Y.iF hl (q) rfl u'104 s'57 rfl rfl) fun ad29 pt29 => ?_
   refine LR.v1 (Y.load1 pt29.pt rfl a'57 rfl) ?_
   refine LR.a1 (LR.nil (hK23 _ _ ?_))
   refine CW.region ?_
   refine LR.m1 ?_
   refine LR.m1 ?_
   refine LR.z1 (Z.apnd ow6 hxq rfl inf57 rfl rfl (by first | omega | (simp; omega)) (by first | omega | (simp; omega))) fun v33 H33 r33 => ?_
   obtain ⟨k33, ow6, hk33, hs33⟩ := r33
   replace hk33 : Nx k6 HL2.size k33 := hk33
   replace hs33 := hs33.md
   have nx11 : Nx k24 H24.size k33 := Nx.tr (nx7) hk33 hlm2.size
   replace hx := fun x hx0 => (hx x hx0).upL hs33 (DFL.o df5)
   replace hlm2 := hlm2.trL hs33 (MIL.o (MI.r nx7))
   have hz4 := hs33.size
   have hle_ow6 := ow6.le
   refine LR.a1 (LR.nil (hK22 _ _ ?_))
   refine hK21 _ _ (CW.region ?_)
   refine LR.v1 (Y.addi rfl rfl rfl (by omega)) ?_
   refine LR.m1 (LR.nil ?_)
   obtain ⟨s33, rfl⟩ : ∃ s : SV, v33 = s.v := ⟨toSV v33, ow6.sv.symm⟩
   refine QN.sub (hN18 (q + 1, s33, k33) _ ?_ ?_) ⟨rfl, rfl, (iv (by omega)), (iv (by omega)), trivial⟩
   · exact ⟨(by omega), by rw [catP_take hql]; exact ow6, nx11, hlm2⟩
   · first | omega | (simp only; omega) | (simp; omega)
  ·
   refine CW.exit (hE20 (.exit 2) nofun _ _ (hE18 (.exit 2) nofun _ _ (hX17 _ _ ?_)))
   refine hK15 _ _ (CW.s1 (fun hK24 => CW.region ?_))
   refine LR.m1 ?_
   refine LR.a1 (LR.nil (hK24 _ _ ?_))
   refine CW.ret (hret .ret (.inr rfl) _ _ _ (res1 rfl rfl) ?_)
   obtain rfl : q = l.length := by omega
   rw [List.take_length] at ow6
   exact ⟨s6, k6, rfl, ow6, nx6, hm0⟩
abbrev Wx := Wr × SV
abbrev fW (x : Wx) : List Value := [.bool x.1.b, x.2.v]
theorem fW_len (x : Wx) : (fW x).length = 2 := rfl
theorem fW_one (x : Wx) : ∀ u ∈ fW x, u.oneCell' = true := by intro u hu; simp only [List.mem_cons, List.not_mem_nil, or_false] at hu; rcases hu with rfl | rfl <;> rfl
abbrev wV (x : Wx) : Value := .agg (fW x).toArray
theorem on_le (w : Wr) (b : List UInt8) (n : Nat) : (w.on b n).length ≤ b.length + n := by
 unfold Wr.on; rw [List.length_append, List.length_take]; split <;> simp <;> omega
theorem on_ct (x : Wx) (sb : SV) (b : List UInt8) (n : Nat) (w0 : World) (H0 : Heap)
 (hd : RdT H0 fB 1 x.2.v x.1.d) (hb : RdT H0 fB 1 sb.v b) (hn : n ≤ x.1.d.length) (hbl : b.length + n ≤ 1099511627776) :
 Ct Tryz.prog w0 160 #[wV x, sb.v, .int .i64 (n : Int)] H0 (fun r H2 => ∃ s : SV, ∃ k : Nat, r = s.v ∧ (Ow k 5 H2 fB 1 s.v (x.1.on b n)) ∧ (Nx 0 H0.size k) ∧ Nw H0 H2) := by
 refine Ct.enter (args := [wV x, sb.v, .int .i64 (n : Int)]) Tryz.func160 rfl rfl rfl ?_
 intro Q0 hret
 have hm0 : Nw H0 H0 := Mo.refl _ _
 replace hd := hd.bnd
 replace hb := hb.bnd
 refine CW.s1 (fun hK1 => CW.region ?_)
 refine LR.z1 (Z.boxv rfl rfl) fun v3 H3 r3 => ?_
 obtain ⟨rfl, vx, hs3, ob3, hH3⟩ := r3
 have hzs3 : H3.size = H0.size + 1 := by rw [hH3]; simp
 replace hd := hd.nw hs3
 replace hb := hb.nw hs3
 replace hm0 := hm0.tr hs3
 have hz1 := hs3.size
 replace vx : Var 275 H3 H0.size (fW x) := vx
 refine LR.a1 (LR.nil (hK1 _ _ ?_))
 refine CW.cut (fun (s_ : (SV) × (List UInt8)) => match s_ with | (s1, b1) => [(1, s1.v), (2, .int .i64 (n : Int)), (3, .pointer (some ⟨H0.size, 0, none⟩))])
  (fun (s_ : (SV) × (List UInt8)) (H : Heap) => match s_ with | (s1, b1) => (RdT H fB 1 s1.v b1) ∧ (b1 = if x.1.b = true then b else []) ∧ Nw H3 H) (fun _ hK2 _ => ?_) ?_
 ·
  have hcm2 : Nw H3 H3 := Mo.refl _ _
  refine CW.s1 (fun hK3 => CW.region ?_)
  refine LR.v1 (Y.FA vx.pt rfl u'275 rfl s'4) ?_
  refine LR.v1 (Y.load1 vx.pt rfl a'4 rfl) ?_
  refine LR.v1 (Y.not rfl rfl) (LR.nil (hK3 _ _ ?_))
  refine CW.cond rfl (fun c9 => ?_) (fun c9 => ?_)
  ·
   refine CW.region ?_
   refine LR.a1 (LR.nil ?_)
   refine QN.sub (hK2 (⟨none, 0, 0⟩, []) _ ?_) ⟨rfl, (iv (by omega)), rfl, trivial⟩
   exact ⟨Rd.nil _ _ _ _, by rw [if_neg (by simpa using c9)], hcm2⟩
  ·
   refine CW.skip ?_
   refine QN.sub (hK2 (sb, b) _ ?_) ⟨rfl, (iv (by omega)), rfl, trivial⟩
   exact ⟨hb.any, by rw [if_pos (by simpa using c9)], hcm2⟩
 ·
  rintro ⟨s1, b1⟩ Hcutc9 hIcutc9
  obtain ⟨hb1, hb1e, hlmcutc9⟩ := hIcutc9
  replace hd := hd.nw hlmcutc9
  replace vx := vx.nw hlmcutc9
  replace hm0 := hm0.tr hlmcutc9
  have hz2 := hlmcutc9.size
  have hb1l : b1.length ≤ b.length := by rw [hb1e]; split <;> simp
  refine CW.s1 (fun hK4 => CW.region ?_)
  refine LR.m1 ?_
  refine LR.v1 (Y.FA vx.pt rfl u'275 rfl s'57) ?_
  refine LR.v1 (Y.load1 (vx.pt.drop 1) rfl a'57 rfl) ?_
  refine LR.m1 ?_
  refine LR.e1 (g := fun v => v) (Y.slice hd (0) (n) rfl u'57 s'5 rfl (.inl ⟨rfl, rfl⟩) (.inr ⟨_, _, _, rfl, rfl, by first | rfl | omega⟩) (by omega) (by omega)) fun v14 rd14 => ?_
  obtain ⟨s14, rfl⟩ : ∃ s : SV, v14 = s.v := ⟨toSV v14, rd14.sv.symm⟩
  refine LR.z1 (Z.litw _ ([(s1, b1), (s14, (x.1.d.take n).drop 0)]) rfl inf104 rfl rfl rfl (by decide) (by decide) fP_len fP_one (rfl)) fun v15 H15 r15 => ?_
  obtain ⟨ow15, hs15, ob15, hH15⟩ := r15
  have hzs15 : H15.size = Hcutc9.size + 1 := by rw [hH15]; simp
  replace rd14 := rd14.nw hs15
  replace hm0 := hm0.tr hs15
  have hz3 := hs15.size
  refine LR.call rfl c'186 rfl (Wd.u rfl) rfl rfl (concat_ct v15 [(s1, b1), (s14, (x.1.d.take n).drop 0)] w0 _ ow15.rd.any (fun x hx => by simp only [List.mem_cons, List.not_mem_nil, or_false] at hx; rcases hx with rfl | rfl; exact hb1.nw hs15; exact rd14.any) (by simp [catP]; omega)) (fun v16 H16 r16 => ?_)
  obtain ⟨s16, k16, rfl, ow16, hk16, hs16⟩ := r16
  have nx14 : Nx 0 H0.size k16 := Nx.tr (Nx.refl 0 _) hk16 hm0.size
  replace hm0 := hm0.tr hs16
  refine LR.a1 (LR.nil (hK4 _ _ ?_))
  refine CW.ret (hret .ret (.inr rfl) _ _ _ (res1 rfl rfl) ?_)
  exact ⟨s16, k16, rfl, by have e : catP [(s1, b1), (s14, (x.1.d.take n).drop 0)] = x.1.on b n := (by unfold Wr.on; rw [← hb1e]; simp [catP]); rw [← e]; exact ow16, nx14, hm0⟩
end Go.Proofs.YtfjmpninmdjcaaaGreatDoor.SimB

namespace Go.Proofs.YtfjmpninmdjcaaaGreatDoor.E
section
variable {P : Program} {w0 : World} {n : Nat} {l : FL} {H : Heap} {o : Oper}
theorem Z.ext {f : FuncId} {fn : Func} {e : Array Value → Sem Value} {args : List Operand} {ats : Array TypeId} {vs : List Value} {R : Value → Heap → Prop} (ho : o.op = .call { callee := .value (.func f), args := args.toArray, argTypes := ats }) (hf : P.funcs[f]? = some fn)
 (hname : (fn.name == "runtime.NumGoroutine") = false) (hb : fn.body.isNone = true) (hn : Extern.findNext fn = none) (he : Extern.find fn = some e) (hv : opvs l args = some vs) (hr : ∀ w, At w0 H w → ∃ v H' w', (e vs.toArray).run P w = .ok v w' ∧ At w0 H' w' ∧ R v H') : Z P w0 n l H o R := by
 intro a w hfr ha
 have h1 : a.eval (.func f) = .func (.func f) #[] #[] := rfl
 have h2 := hfr.evals hv
 have h3 := run_callFunc_extern (P := P) hf hname hb hn he vs.toArray w
 obtain ⟨v, H', w', q1, q2, q3⟩ := hr w ha
 rw [q1] at h3
 simp only [Result.andThen] at h3
 exact ⟨v, H', w', by simp [execOp, ho, resolve, Deferred.ofValue, h1, invoke, h2, h3], q2, q3⟩
theorem Var.cell {e : TypeId} {b : Nat} {cs : List Value} (h : Var e H b cs) {w : World} (ha : At w0 H w) {i : Nat} {c : Value} (hc : cs[i]? = some c) : w.cell? ⟨b, i, none⟩ = some c ∧ w.frozen? ⟨b, i, none⟩ = false ∧ ∃ fz, w.heap[b]? = some (.cells cs.toArray e fz) := by
 obtain ⟨fz, h1, h2⟩ := id h.row
 have hi := (List.getElem?_eq_some_iff.1 hc).1
 have h1' : w.heap[b]? = some (.cells cs.toArray e fz) := by rw [ha.heap]; exact h1
 refine ⟨by simp [World.cell?, h1', hc], ?_, fz, h1'⟩
 obtain ⟨lo, hi'⟩ := fz
 have := h2.2 i (by simpa using hi)
 simp only at this
 simp [World.frozen?, h1']; omega
theorem Z.add64 {f : FuncId} {fn : Func} {args : List Operand} {ats : Array TypeId} {e : TypeId} {b i : Nat} {cs : List Value} {x y : Int} (h : Var e H b cs) (hc : cs[i]? = some (.int .i64 x)) (ho : o.op = .call { callee := .value (.func f), args := args.toArray, argTypes := ats }) (hf : P.funcs[f]? = some fn)
 (hname : (fn.name == "runtime.NumGoroutine") = false) (hb : fn.body.isNone = true) (hn : Extern.findNext fn = none) (he : Extern.find fn = some (Extern.Atomic.update (Op.intArith .add) .i64 true)) (hv : opvs l args = some [.pointer (some ⟨b, i, none⟩), .int .i64 y]) (hxy : -9223372036854775808 ≤ x + y ∧ x + y ≤ 9223372036854775807) :
 Z P w0 n l H o (fun r H' => r = .int .i64 (x + y) ∧ Var e H' b (cs.set i (.int .i64 (x + y))) ∧ Mo (fun c => c = b) H H') := by
 refine Z.ext ho hf hname hb hn he hv (fun w ha => ?_)
 obtain ⟨h1, h2, fz, h3⟩ := h.cell ha hc
 have hw : IntKind.i64.wrap (x + y) = x + y := by rw [IntKind.wrap_i64]; omega
 have hi := (List.getElem?_eq_some_iff.1 hc).1
 refine ⟨.int .i64 (x + y), _, w.setRow b (cs.toArray.setIfInBounds i (.int .i64 (x + y))), ?_, ha.row _ _, rfl, ?_, setRow_mo ha _ _⟩
 · have hs : (store ⟨b, i, none⟩ (.int .i64 (x + y)) .atomic).run P w = .ok () (w.setRow b (cs.toArray.setIfInBounds i (.int .i64 (x + y)))) := by
    rw [Go.run_store P w _ _ _ rfl, h1]
    simp only [h2, Bool.false_eq_true, if_false]
    rw [setCell_eq_setRow w b i cs.toArray e fz _ h3]
   have e1 : Extern.Atomic.update (Op.intArith .add) .i64 true #[.pointer (some ⟨b, i, none⟩), .int .i64 y] = (asAddr (.pointer (some ⟨b, i, none⟩)) >>= fun a => Extern.Atomic.read (.int .i64) a >>= fun old => asInt old >>= fun p => asInt (.int .i64 y) >>= fun q => Op.intArith .add .i64 p q >>= fun new => store a new .atomic >>= fun _ => pure (if true then new else old)) := rfl
   show (Extern.Atomic.update (Op.intArith .add) .i64 true #[.pointer (some ⟨b, i, none⟩), .int .i64 y]).run P w = _
   rw [e1]
   simp [Extern.Atomic.read, asAddr, h1, asInt, asIntOf, Op.intArith, hw, hs]
 · have := setRow_row ha h.row (c := cs.toArray.setIfInBounds i (.int .i64 (x + y))) (by simp)
   exact ⟨by simpa using this⟩
end
end Go.Proofs.YtfjmpninmdjcaaaGreatDoor.E

namespace Go.Proofs.YtfjmpninmdjcaaaGreatDoor.SimC
open E Go.RowKit SimA SimB
set_option maxRecDepth 20000
inductive Role | out | fs | dirs | dir (p : Pth) | now (p : Pth) | sty (p : Pth) | chg (p : Pth) | fil (i : Nat) | wrs (i : Nat) | frz
abbrev ptr (b : Nat) : Value := .pointer (some ⟨b, 0, none⟩)
abbrev fvl (fb : List Nat) (i : Nat) : Value := ptr (fb.getD i 0)
abbrev fpt (fb : List Nat) (o : Option Nat) : Option Addr := o.map (fun i => ⟨fb.getD i 0, 0, none⟩)
abbrev fC (fb : List Nat) (c : Chg) : List Value := [Str c.g, Str c.n, .pointer (fpt fb c.f)]
theorem fC_len (fb : List Nat) (c : Chg) : (fC fb c).length = 3 := rfl
theorem fC_one (fb : List Nat) (c : Chg) : ∀ u ∈ fC fb c, u.oneCell' = true := by
 intro u hu; simp only [List.mem_cons, List.not_mem_nil, or_false] at hu
 rcases hu with rfl | rfl | rfl <;> rfl
theorem own_congr {α : Type} {G : Nat → Prop} {e : TypeId} {H : Heap} {f g : α → List Value} {sz : Nat} {v : Value} {l : List α} (h : Own G e H f sz v l) (hc : ∀ x, (g x).length = sz) (h1 : ∀ x, ∀ u ∈ g x, u.oneCell' = true) (hfg : ∀ x ∈ l, f x = g x) : Own G e H g sz v l := by
 refine ⟨hc, h1, ?_⟩
 rcases h.ex with h | ⟨b, cap, cur, e1, e2, e3, e4, e5, e6, e7⟩
 · exact .inl h
 · refine .inr ⟨b, cap, cur, e1, e2, e3, e4, e5, e6, ?_⟩
   rw [e7, List.flatMap_def, List.flatMap_def, List.map_congr_left hfg]
theorem ow_congr {α : Type} {k : Nat} {e : TypeId} {H : Heap} {f g : α → List Value} {sz : Nat} {v : Value} {l : List α} (h : Ow k e H f sz v l) (hc : ∀ x, (g x).length = sz) (h1 : ∀ x, ∀ u ∈ g x, u.oneCell' = true) (hfg : ∀ x ∈ l, f x = g x) : Ow k e H g sz v l := ⟨own_congr h.own hc h1 hfg, h.le⟩
theorem mp_congr {κ β : Type} {H : Heap} {fk : κ → Value} {f g : β → Value} {b : Nat} {m : List (κ × β)} (h : Mp H fk f b m) (hfg : ∀ x ∈ m, f x.2 = g x.2) : Mp H fk g b m := by
 obtain ⟨r, es, clock, h1, h2, h3, h4, h5⟩ := h.mo.ex
 exact ⟨⟨r, es, clock, h1, h2, h3, h4, by rw [h5]; exact List.map_congr_left (fun x hx => by rw [hfg x hx])⟩⟩
section
variable {ρ ρ' : Nat → Role} {fb : List Nat} {H H' : Heap} {D D' : Dk} {p : Pth} {db nb sb k i b : Nat} {sv nv wv : SV} {nm sm : Nms} {x : Fdt} {l : List Wx} {S : Nat → Prop}
structure DirO (ρ : Nat → Role) (fb : List Nat) (H : Heap) (D : Dk) (p : Pth) (db nb sb k : Nat) (sv : SV) (nm sm : Nms) : Prop where
 rd : ρ db = .dir p
 vd : Var 173 H db [.map (some nb), .map (some sb), sv.v]
 rn : ρ nb = .now p
 hn : Mp H Str (fvl fb) nb nm
 rs : ρ sb = .sty p
 hs : Mp H Str (fvl fb) sb sm
 en : ∀ q, mget nm q = if dirP q = p then mget D.now q else none
 es : ∀ q, mget sm q = if dirP q = p then mget D.stays q else none
 hc : Ow k 177 H (fC fb) 3 sv.v (D.chgs p)
 rc : ∀ c, c + 1 = k → ρ c = .chg p
structure FilO (ρ : Nat → Role) (H : Heap) (i b : Nat) (x : Fdt) (nv sv wv : SV) (k : Nat) (l : List Wx) : Prop where
 rf : ρ b = .fil i
 vf : Var 186 H b [nv.v, sv.v, wv.v]
 hn : Rd (fun c => ρ c = .frz) H fB 1 nv.v x.now
 hs : Rd (fun c => ρ c = .frz) H fB 1 sv.v x.stays
 hw : Ow k 275 H fW 2 wv.v l
 lw : l.map (·.1) = x.w
 hd : ∀ y ∈ l, Rd (fun c => ρ c = .frz) H fB 1 y.2.v y.1.d
 rk : ∀ c, c + 1 = k → ρ c = .wrs i
def Ext (ρ ρ' : Nat → Role) : Prop := ∀ c, ρ c ≠ .out → ρ' c = ρ c
theorem Ext.refl (ρ : Nat → Role) : Ext ρ ρ := fun _ _ => rfl
theorem Ext.of (h : Ext ρ ρ') {c : Nat} {r : Role} (e : ρ c = r) (hr : r ≠ .out) : ρ' c = r := by rw [h c (by rw [e]; exact hr)]; exact e
theorem rd_frz {α : Type} {f : α → List Value} {sz : Nat} {v : Value} {l : List α} (h : Rd (fun c => ρ c = .frz) H f sz v l) (hx : Ext ρ ρ') (s : Mo S H H') (hS : ∀ c, S c → ρ c ≠ .frz) : Rd (fun c => ρ' c = .frz) H' f sz v l :=
 (h.up s (fun b _ e hs => hS b hs e)).imp (fun b _ e => hx.of e (by simp))
theorem DirO.tr (h : DirO ρ fb H D p db nb sb k sv nm sm) (hx : Ext ρ ρ') (s : Mo S H H') (hS : ∀ c, S c → ρ c ≠ .dir p ∧ ρ c ≠ .now p ∧ ρ c ≠ .sty p ∧ ρ c ≠ .chg p)
 (hn : ∀ q, dirP q = p → mget D'.now q = mget D.now q) (hs : ∀ q, dirP q = p → mget D'.stays q = mget D.stays q) (hc : D'.chgs p = D.chgs p) : DirO ρ' fb H' D' p db nb sb k sv nm sm where
 rd := hx.of h.rd (by simp)
 vd := h.vd.up s (fun e => (hS _ e).1 h.rd)
 rn := hx.of h.rn (by simp)
 hn := h.hn.up s (fun e => (hS _ e).2.1 h.rn)
 rs := hx.of h.rs (by simp)
 hs := h.hs.up s (fun e => (hS _ e).2.2.1 h.rs)
 en := fun q => by rw [h.en]; split
                   · rename_i e; rw [hn q e]
                   · rfl
 es := fun q => by rw [h.es]; split
                   · rename_i e; rw [hs q e]
                   · rfl
 hc := by rw [hc]; exact h.hc.up s (fun b _ e hb => (hS b hb).2.2.2 (h.rc b e))
 rc := fun c e => hx.of (h.rc c e) (by simp)
theorem FilO.tr (h : FilO ρ H i b x nv sv wv k l) (hx : Ext ρ ρ') (s : Mo S H H') (hS : ∀ c, S c → ρ c ≠ .fil i ∧ ρ c ≠ .wrs i ∧ ρ c ≠ .frz) : FilO ρ' H' i b x nv sv wv k l where
 rf := hx.of h.rf (by simp)
 vf := h.vf.up s (fun e => (hS _ e).1 h.rf)
 hn := rd_frz h.hn hx s (fun c e => (hS c e).2.2)
 hs := rd_frz h.hs hx s (fun c e => (hS c e).2.2)
 hw := h.hw.up s (fun b _ e hb => (hS b hb).2.1 (h.rk b e))
 lw := h.lw
 hd := fun y hy => rd_frz (h.hd y hy) hx s (fun c e => (hS c e).2.2)
 rk := fun c e => hx.of (h.rk c e) (by simp)
structure Gh where
 ρ : Nat → Role
 fb : List Nat
 mb : Nat
 dm : List (Pth × Nat)
 lv : Nat
structure PDk (K : List Nat) (g : Gh) (H : Heap) (b : Nat) (D : Dk) : Prop where
 hK : ∀ c, c + 1 ∈ K ↔ g.ρ c ≠ .out
 lt : ∀ c, g.ρ c ≠ .out → c < H.size
 rb : g.ρ b = .fs
 vb : Var 102 H b [.int .i64 D.cap, .int .i64 D.most, .map (some g.mb), .int .i64 D.ops, .int .i64 g.lv, .bool D.dead]
 lvD : D.dead = false → g.lv = D.left
 lvB : g.lv ≤ 9223372036854775807
 capB : D.cap ≤ 9223372036854775807
 mostB : D.most ≤ 9223372036854775807
 rm : g.ρ g.mb = .dirs
 hm : Mp H Str ptr g.mb g.dm
 dirs : ∀ p db, mget g.dm p = some db → ∃ nb sb k sv nm sm, DirO g.ρ g.fb H D p db nb sb k sv nm sm
 abs : ∀ p, mget g.dm p = none → (∀ q, dirP q = p → mget D.now q = none ∧ mget D.stays q = none) ∧ D.chgs p = []
 len : g.fb.length = D.fs.length
 fil : ∀ i, i < D.fs.length → ∃ nv sv wv k l, FilO g.ρ H i (g.fb.getD i 0) (fget D.fs i) nv sv wv k l
 ids : (∀ p i, mget D.now p = some i → i < D.fs.length) ∧ (∀ p i, mget D.stays p = some i → i < D.fs.length) ∧ (∀ c ∈ D.log, ∀ i, c.f = some i → i < D.fs.length)
 dml : g.dm.length ≤ D.ops
variable {K K' : List Nat} {g : Gh} {ks : List Nat}
theorem PDk.bk (h : PDk K g H b D) : BK K H.size := fun k hk => by
 rcases Nat.eq_zero_or_pos k with e | this
 · omega
 · have h2 := h.lt (k - 1) ((h.hK (k - 1)).1 (by rw [Nat.sub_add_cancel this]; exact hk))
   omega
theorem PDk.up (h : PDk K g H b D) (s : Mo S H H') (hS : ∀ c, S c → g.ρ c = .out) : PDk K g H' b D where
 hK := h.hK
 lt := fun c e => Nat.lt_of_lt_of_le (h.lt c e) s.size
 rb := h.rb
 vb := h.vb.up s (fun e => by have := hS _ e; rw [h.rb] at this; cases this)
 lvD := h.lvD
 lvB := h.lvB
 capB := h.capB
 mostB := h.mostB
 rm := h.rm
 hm := h.hm.up s (fun e => by have := hS _ e; rw [h.rm] at this; cases this)
 dirs := fun p db e => by
  obtain ⟨nb, sb, k, sv, nm, sm, hd⟩ := h.dirs p db e
  exact ⟨nb, sb, k, sv, nm, sm, hd.tr (Ext.refl _) s (fun c hc => by rw [hS c hc]; simp) (fun _ _ => rfl) (fun _ _ => rfl) rfl⟩
 abs := h.abs
 len := h.len
 fil := fun i hi => by
  obtain ⟨nv, sv, wv, k, l, hf⟩ := h.fil i hi
  exact ⟨nv, sv, wv, k, l, hf.tr (Ext.refl _) s (fun c hc => by rw [hS c hc]; simp)⟩
 ids := h.ids
 dml := h.dml
theorem PDk.nw (h : PDk K g H b D) (s : Nw H H') : PDk K g H' b D := h.up s (fun c e => e.elim)
theorem PDk.role (h : PDk K g H b D) {c : Nat} (hc : c + 1 ∉ K) : g.ρ c = .out := Classical.byContradiction (fun e => hc ((h.hK c).2 e))
theorem PDk.upL (h : PDk K g H b D) (s : Mo (Ms ks) H H') (d : DKL K ks) : PDk K g H' b D := h.up s (fun c e => h.role (fun hk => d (c + 1) hk (c + 1) e c rfl rfl))
theorem PDk.mem (h : PDk K g H b D) {c : Nat} {r : Role} (e : g.ρ c = r) (hr : r ≠ .out) : c + 1 ∈ K := (h.hK c).2 (by rw [e]; exact hr)
theorem PDk.km {r : Role} (h : PDk K g H b D) (hk : ∀ c, c + 1 = k → g.ρ c = r) (hr : r ≠ .out) : KM K k := fun c e => h.mem (hk c e) hr
theorem PDk.km1 {c : Nat} {r : Role} (h : PDk K g H b D) (e : g.ρ c = r) (hr : r ≠ .out) : KM K (c + 1) := KM.of (h.mem e hr)
theorem PDk.ms (h : PDk K g H b D) (s : Mo S H H') (hS : ∀ c, S c → g.ρ c ≠ .out) : Mo (Ms K) H H' := s.weaken (fun c _ e => (h.hK c).2 (hS c e))
theorem PDk.setFs {g' : Gh} (h : PDk K g H b D) (s : Mo (Ms [b + 1]) H H') (hg : g'.ρ = g.ρ ∧ g'.fb = g.fb ∧ g'.mb = g.mb ∧ g'.dm = g.dm)
 (hv : Var 102 H' b [.int .i64 D.cap, .int .i64 D.most, .map (some g.mb), .int .i64 D'.ops, .int .i64 g'.lv, .bool D'.dead]) (hl : D'.dead = false → g'.lv = D'.left) (hlb : g'.lv ≤ 9223372036854775807)
 (hD : D'.cap = D.cap ∧ D'.most = D.most ∧ D'.fs = D.fs ∧ D'.now = D.now ∧ D'.stays = D.stays ∧ D'.log = D.log) (ho : D.ops ≤ D'.ops) : PDk K g' H' b D' := by
 obtain ⟨r, fb, mb, dm, lv⟩ := g'
 obtain ⟨rfl, rfl, rfl, rfl⟩ := hg
 obtain ⟨cap, most, fs, now, stays, log, ops, left, dead⟩ := D'
 obtain ⟨rfl, rfl, rfl, rfl, rfl, rfl⟩ := hD
 have hS : ∀ c, Ms [b + 1] c → g.ρ c = .fs := fun c e => by
  have : c = b := by simpa [Ms] using e
  rw [this]; exact h.rb
 exact {
  hK := h.hK, lt := fun c e => Nat.lt_of_lt_of_le (h.lt c e) s.size, rb := h.rb, vb := hv, lvD := hl, lvB := hlb, capB := h.capB, mostB := h.mostB, rm := h.rm
  hm := h.hm.up s (fun e => by have := hS _ e; rw [h.rm] at this; cases this)
  dirs := fun p db e => by
   obtain ⟨nb, sb, k, sv, nm, sm, hd⟩ := h.dirs p db e
   exact ⟨nb, sb, k, sv, nm, sm, hd.tr (Ext.refl _) s (fun c hc => by rw [hS c hc]; simp) (fun _ _ => rfl) (fun _ _ => rfl) rfl⟩
  abs := h.abs, len := h.len
  fil := fun i hi => by
   obtain ⟨nv, sv, wv, k, l, hf⟩ := h.fil i hi
   exact ⟨nv, sv, wv, k, l, hf.tr (Ext.refl _) s (fun c hc => by rw [hS c hc]; simp)⟩
  ids := h.ids, dml := Nat.le_trans h.dml ho }
theorem PDk.setDir (h : PDk K g H b D) (s : Mo S H H') (hS : ∀ c, S c → g.ρ c = .dir p ∨ g.ρ c = .now p ∨ g.ρ c = .sty p ∨ g.ρ c = .chg p ∨ g.ρ c = .out) (hx : Ext g.ρ ρ') (hK : ∀ c, c + 1 ∈ K' ↔ ρ' c ≠ .out) (lt : ∀ c, ρ' c ≠ .out → c < H'.size)
 (hp : mget g.dm p = some db) (hd : ∃ nb sb k sv nm sm, DirO ρ' g.fb H' D' p db nb sb k sv nm sm)
 (hD : D'.cap = D.cap ∧ D'.most = D.most ∧ D'.fs = D.fs ∧ D'.ops = D.ops ∧ D'.left = D.left ∧ D'.dead = D.dead)
 (hn : ∀ q, dirP q ≠ p → mget D'.now q = mget D.now q) (hs : ∀ q, dirP q ≠ p → mget D'.stays q = mget D.stays q) (hc : ∀ n, n ≠ p → D'.chgs n = D.chgs n)
 (ids : (∀ p i, mget D'.now p = some i → i < D'.fs.length) ∧ (∀ p i, mget D'.stays p = some i → i < D'.fs.length) ∧ (∀ c ∈ D'.log, ∀ i, c.f = some i → i < D'.fs.length)) : PDk K' { g with ρ := ρ' } H' b D' := by
 obtain ⟨cap, most, fs, now, stays, log, ops, left, dead⟩ := D'
 obtain ⟨rfl, rfl, rfl, rfl, rfl, rfl⟩ := hD
 exact {
  hK := hK, lt := lt, rb := hx.of h.rb (by simp)
  vb := h.vb.up s (fun e => by have := hS _ e; rw [h.rb] at this; simp at this)
  lvD := h.lvD, lvB := h.lvB, capB := h.capB, mostB := h.mostB, rm := hx.of h.rm (by simp)
  hm := h.hm.up s (fun e => by have := hS _ e; rw [h.rm] at this; simp at this)
  dirs := fun q db2 e => by
   by_cases hq : q = p
   · subst hq
     have : db2 = db := Option.some.inj (e.symm.trans hp)
     subst this; exact hd
   · obtain ⟨nb, sb, k, sv, nm, sm, hd⟩ := h.dirs q db2 e
     refine ⟨nb, sb, k, sv, nm, sm, hd.tr hx s (fun c hc => ?_) (fun r hr => hn r (by rw [hr]; exact hq)) (fun r hr => hs r (by rw [hr]; exact hq)) (hc q hq)⟩
     rcases hS c hc with e | e | e | e | e <;> (rw [e]; simp [Ne.symm hq])
  abs := fun q e => by
   have hq : q ≠ p := fun e2 => by subst e2; rw [hp] at e; cases e
   obtain ⟨h1, h2⟩ := h.abs q e
   exact ⟨fun r hr => by rw [hn r (by rw [hr]; exact hq), hs r (by rw [hr]; exact hq)]; exact h1 r hr, by rw [hc q hq]; exact h2⟩
  len := h.len
  fil := fun i hi => by
   obtain ⟨nv, sv, wv, k, l, hf⟩ := h.fil i hi
   refine ⟨nv, sv, wv, k, l, hf.tr hx s (fun c hc => ?_)⟩
   rcases hS c hc with e | e | e | e | e <;> (rw [e]; simp)
  ids := ids, dml := h.dml }
theorem PDk.setFil {y : Fdt} (h : PDk K g H b D) (hi : i < D.fs.length) (s : Mo S H H') (hS : ∀ c, S c → g.ρ c = .fil i ∨ g.ρ c = .wrs i ∨ g.ρ c = .out) (hx : Ext g.ρ ρ') (hK : ∀ c, c + 1 ∈ K' ↔ ρ' c ≠ .out) (lt : ∀ c, ρ' c ≠ .out → c < H'.size)
 (hf : ∃ nv sv wv k l, FilO ρ' H' i (g.fb.getD i 0) y nv sv wv k l) : PDk K' { g with ρ := ρ' } H' b (D.putF i y) := by
 have hfl : (D.putF i y).fs.length = D.fs.length := by simp [Dk.putF]
 exact {
  hK := hK, lt := lt, rb := hx.of h.rb (by simp)
  vb := h.vb.up s (fun e => by have := hS _ e; rw [h.rb] at this; simp at this)
  lvD := h.lvD, lvB := h.lvB, capB := h.capB, mostB := h.mostB, rm := hx.of h.rm (by simp)
  hm := h.hm.up s (fun e => by have := hS _ e; rw [h.rm] at this; simp at this)
  dirs := fun q db2 e => by
   obtain ⟨nb, sb, k, sv, nm, sm, hd⟩ := h.dirs q db2 e
   refine ⟨nb, sb, k, sv, nm, sm, hd.tr hx s (fun c hc => ?_) (fun _ _ => rfl) (fun _ _ => rfl) rfl⟩
   rcases hS c hc with e | e | e <;> (rw [e]; simp)
  abs := h.abs, len := by rw [hfl]; exact h.len
  fil := fun j hj => by
   rw [hfl] at hj
   by_cases hji : j = i
   · subst hji
     have e : fget (D.putF j y).fs j = y := by simp [fget, Dk.putF, List.getD, hi]
     rw [e]; exact hf
   · have e : fget (D.putF i y).fs j = fget D.fs j := by simp [fget, Dk.putF, List.getD, List.getElem?_set, Ne.symm hji]
     rw [e]
     obtain ⟨nv, sv, wv, k, l, hf⟩ := h.fil j hj
     refine ⟨nv, sv, wv, k, l, hf.tr hx s (fun c hc => ?_)⟩
     rcases hS c hc with e | e | e <;> (rw [e]; simp [Ne.symm hji])
  ids := by rw [hfl]; exact h.ids
  dml := h.dml }
def upr (ρ : Nat → Role) (x : Nat) (r : Role) : Nat → Role := fun c => if c = x then r else ρ c
theorem upr_self {x : Nat} {r : Role} : upr ρ x r x = r := if_pos rfl
theorem upr_ne {x c : Nat} {r : Role} (h : c ≠ x) : upr ρ x r c = ρ c := if_neg h
theorem Ext.upr {x : Nat} {r : Role} (h : ρ x = .out) : Ext ρ (upr ρ x r) := fun c hc => by
 by_cases e : c = x
 · subst e; exact absurd h hc
 · exact upr_ne e
theorem Ext.trans {ρ2 : Nat → Role} (h : Ext ρ ρ') (h2 : Ext ρ' ρ2) : Ext ρ ρ2 := fun c hc => by
 have e := h c hc
 rw [h2 c (by rw [e]; exact hc), e]
theorem hK_upr {x : Nat} {r : Role} (hK : ∀ c, c + 1 ∈ K ↔ ρ c ≠ .out) (hr : r ≠ .out) : ∀ c, c + 1 ∈ (x + 1) :: K ↔ upr ρ x r c ≠ .out := fun c => by
 unfold upr
 rw [List.mem_cons]
 by_cases e : c = x
 · rw [if_pos e]; simp [e, hr]
 · rw [if_neg e, ← hK]
   constructor
   · rintro (h | h)
     · omega
     · exact h
   · exact .inr
theorem lt_upr {x : Nat} {r : Role} (lt : ∀ c, ρ c ≠ .out → c < H.size) (hs : H.size ≤ H'.size) (hx : x < H'.size) : ∀ c, upr ρ x r c ≠ .out → c < H'.size := fun c hc => by
 unfold upr at hc
 split at hc
 · rename_i e; rw [e]; exact hx
 · exact Nat.lt_of_lt_of_le (lt c hc) hs
def uprk (ρ : Nat → Role) (k : Nat) (r : Role) : Nat → Role := fun c => if c + 1 = k then r else ρ c
theorem uprk_self {c : Nat} {r : Role} (h : c + 1 = k) : uprk ρ k r c = r := if_pos h
theorem uprk_ne {c : Nat} {r : Role} (h : c + 1 ≠ k) : uprk ρ k r c = ρ c := if_neg h
theorem Ext.uprk {r : Role} (h : ∀ c, c + 1 = k → ρ c = .out ∨ ρ c = r) : Ext ρ (uprk ρ k r) := fun c hc => by
 unfold SimC.uprk
 split
 · rename_i e; rcases h c e with e2 | e2
   · exact absurd e2 hc
   · exact e2.symm
 · rfl
theorem hK_uprk {r : Role} (hK : ∀ c, c + 1 ∈ K ↔ ρ c ≠ .out) (hr : r ≠ .out) : ∀ c, c + 1 ∈ k :: K ↔ uprk ρ k r c ≠ .out := fun c => by
 unfold uprk
 rw [List.mem_cons]
 by_cases e : c + 1 = k
 · rw [if_pos e]; simp [e, hr]
 · rw [if_neg e, ← hK]; simp [e]
theorem lt_uprk {r : Role} (lt : ∀ c, ρ c ≠ .out → c < H.size) (hs : H.size ≤ H'.size) (hx : k ≤ H'.size) : ∀ c, uprk ρ k r c ≠ .out → c < H'.size := fun c hc => by
 unfold uprk at hc
 split at hc
 · omega
 · exact Nat.lt_of_lt_of_le (lt c hc) hs
theorem PDk.newk (h : PDk K g H b D) (hk : DL k K) : ∀ c, c + 1 = k → g.ρ c = .out := fun c e => h.role (fun hm => hk (c + 1) hm c e rfl)
theorem PDk.nxk {k2 : Nat} (h : PDk K g H b D) (hk : Nx k H.size k2) {r : Role} (hr : ∀ c, c + 1 = k → g.ρ c = r) : ∀ c, c + 1 = k2 → g.ρ c = .out ∨ g.ρ c = r := fun c e => by
 rcases hk with e2 | e2 | e2
 · omega
 · exact .inr (hr c (by omega))
 · exact .inl (Classical.byContradiction (fun hq => by have := h.lt c hq; omega))
theorem PDk.newFil {x : Nat} (h : PDk K g H b D) (hv : Var 186 H x [.slice none 0 0, .slice none 0 0, .slice none 0 0]) (hx : DL (x + 1) K) :
 PDk ((x + 1) :: K) { g with ρ := upr g.ρ x (.fil D.fs.length), fb := g.fb ++ [x] } H b { D with fs := D.fs ++ [⟨[], [], []⟩] } := by
 have ho : g.ρ x = .out := h.role (fun hk => hx (x + 1) hk x rfl rfl)
 have he : Ext g.ρ (upr g.ρ x (.fil D.fs.length)) := Ext.upr ho
 have hg : ∀ i, i < D.fs.length → (g.fb ++ [x]).getD i 0 = g.fb.getD i 0 := fun i hi => by simp [List.getD, List.getElem?_append_left (show i < g.fb.length by rw [h.len]; exact hi)]
 have hS : ∀ c, (fun _ => False) c → g.ρ c = .out := fun _ e => e.elim
 exact {
  hK := hK_upr h.hK (by simp), lt := lt_upr h.lt (Nat.le_refl _) hv.lt, rb := he.of h.rb (by simp), vb := h.vb
  lvD := h.lvD, lvB := h.lvB, capB := h.capB, mostB := h.mostB, rm := he.of h.rm (by simp), hm := h.hm
  dirs := fun q db2 e => by
   obtain ⟨nb, sb, k, sv, nm, sm, hd⟩ := h.dirs q db2 e
   have hd2 := hd.tr (D' := D) he (Mo.refl (fun _ => False) H) (fun c hc => hc.elim) (fun _ _ => rfl) (fun _ _ => rfl) rfl
   refine ⟨nb, sb, k, sv, nm, sm, { hd2 with hn := mp_congr hd2.hn (fun y hy => ?_), hs := mp_congr hd2.hs (fun y hy => ?_), hc := ow_congr hd2.hc (fC_len _) (fC_one _) (fun c hc => ?_) }⟩
   · have := h.ids.1 y.1 y.2 (by
      have e2 := mget_of_mem hd.hn.mo.nodup (show (y.1, y.2) ∈ nm from hy)
      rw [hd.en] at e2
      split at e2
      · exact e2
      · cases e2)
     rw [fvl, fvl, hg _ this]
   · have := h.ids.2.1 y.1 y.2 (by
      have e2 := mget_of_mem hd.hs.mo.nodup (show (y.1, y.2) ∈ sm from hy)
      rw [hd.es] at e2
      split at e2
      · exact e2
      · cases e2)
     rw [fvl, fvl, hg _ this]
   · have := h.ids.2.2 c (List.mem_filter.1 hc).1
     unfold fC fpt
     cases hcf : c.f with
     | none => rfl
     | some i => simp only [Option.map_some]; rw [hg i (this i hcf)]
  abs := h.abs
  len := by simp [h.len]
  fil := fun j hj => by
   by_cases hj2 : j < D.fs.length
   · obtain ⟨nv, sv, wv, k, l, hf⟩ := h.fil j hj2
     have e : fget (D.fs ++ [⟨[], [], []⟩]) j = fget D.fs j := by simp [fget, List.getD, List.getElem?_append_left hj2]
     rw [hg j hj2]
     refine ⟨nv, sv, wv, k, l, ?_⟩
     show FilO _ H j _ (fget (D.fs ++ [⟨[], [], []⟩]) j) _ _ _ _ _
     rw [e]
     exact hf.tr he (Mo.refl (fun _ => False) H) (fun c hc => hc.elim)
   · have hj3 : j = D.fs.length := by simp at hj; omega
     subst hj3
     have e : fget (D.fs ++ [⟨[], [], []⟩]) D.fs.length = ⟨[], [], []⟩ := by simp [fget, List.getD]
     have e2 : (g.fb ++ [x]).getD D.fs.length 0 = x := by rw [← h.len]; simp [List.getD]
     refine ⟨⟨none, 0, 0⟩, ⟨none, 0, 0⟩, ⟨none, 0, 0⟩, 0, [], ?_⟩
     show FilO _ H _ ((g.fb ++ [x]).getD D.fs.length 0) (fget (D.fs ++ [⟨[], [], []⟩]) D.fs.length) _ _ _ _ _
     rw [e, e2]
     exact { rf := upr_self, vf := hv, hn := Rd.nil _ _ _ _, hs := Rd.nil _ _ _ _, hw := Ow.nil fW_len fW_one, lw := rfl, hd := fun y hy => (by cases hy), rk := fun c e => (by omega) }
  ids := by
   have hl : ({ D with fs := D.fs ++ [⟨[], [], []⟩] } : Dk).fs.length = D.fs.length + 1 := by simp
   rw [hl]
   exact ⟨fun p i e => Nat.lt_succ_of_lt (h.ids.1 p i e), fun p i e => Nat.lt_succ_of_lt (h.ids.2.1 p i e), fun c hc i e => Nat.lt_succ_of_lt (h.ids.2.2 c hc i e)⟩
  dml := h.dml }
theorem PDk.newDir {db nb sb : Nat} (h : PDk K g H b D) (hp : mget g.dm p = none) (hvd : Var 173 H db [.map (some nb), .map (some sb), .slice none 0 0]) (hn : Mp H Str (fvl g.fb) nb ([] : Nms)) (hs : Mp H Str (fvl g.fb) sb ([] : Nms))
 (hxd : DL (db + 1) K) (hxn : DL (nb + 1) K) (hxs : DL (sb + 1) K) (hdn : db ≠ nb) (hds : db ≠ sb) (hns : nb ≠ sb) (s : Mo (Ms [g.mb + 1]) H H') (hm : Mp H' Str ptr g.mb (mput g.dm p db)) (hl : g.dm.length + 1 ≤ D.ops) :
 PDk ((db + 1) :: (sb + 1) :: (nb + 1) :: K) { g with ρ := upr (upr (upr g.ρ nb (.now p)) sb (.sty p)) db (.dir p), dm := mput g.dm p db } H' b D := by
 have on : g.ρ nb = .out := h.role (fun hk => hxn (nb + 1) hk nb rfl rfl)
 have os : g.ρ sb = .out := h.role (fun hk => hxs (sb + 1) hk sb rfl rfl)
 have od : g.ρ db = .out := h.role (fun hk => hxd (db + 1) hk db rfl rfl)
 have he : Ext g.ρ (upr (upr (upr g.ρ nb (.now p)) sb (.sty p)) db (.dir p)) := by
  refine (Ext.upr on).trans ((Ext.upr ?_).trans (Ext.upr ?_))
  · rw [upr_ne (Ne.symm hns)]; exact os
  · rw [upr_ne hds, upr_ne hdn]; exact od
 have hS : ∀ c, Ms [g.mb + 1] c → g.ρ c = .dirs := fun c e => by
  have : c = g.mb := by simpa [Ms] using e
  rw [this]; exact h.rm
 have hlt : ∀ c, g.ρ c = .out → c ≠ g.mb := fun c e e2 => by rw [e2, h.rm] at e; cases e
 obtain ⟨ab1, ab2⟩ := h.abs p hp
 exact {
  hK := hK_upr (hK_upr (hK_upr h.hK (by simp)) (by simp)) (by simp)
  lt := lt_upr (lt_upr (lt_upr h.lt (Nat.le_refl _) hn.lt) (Nat.le_refl _) hs.lt) s.size (Nat.lt_of_lt_of_le hvd.lt s.size), rb := he.of h.rb (by simp)
  vb := h.vb.up s (fun e => by have := hS _ e; rw [h.rb] at this; simp at this)
  lvD := h.lvD, lvB := h.lvB, capB := h.capB, mostB := h.mostB, rm := he.of h.rm (by simp), hm := hm
  dirs := fun q db2 e => by
   rw [mget_put] at e
   by_cases hq : q = p
   · rw [if_pos hq] at e
     have e := Option.some.inj e
     subst e; subst hq
     refine ⟨nb, sb, 0, ⟨none, 0, 0⟩, [], [], ?_⟩
     have hup : ∀ c, g.ρ c = .out → ¬ Ms [g.mb + 1] c := fun c e e2 => by have := hS c e2; rw [e] at this; cases this
     exact { rd := upr_self, vd := hvd.up s (hup _ od), rn := by show upr (upr (upr g.ρ nb _) sb _) db _ nb = _; rw [upr_ne (Ne.symm hdn), upr_ne hns, upr_self], hn := hn.up s (hup _ on), rs := by show upr (upr (upr g.ρ nb _) sb _) db _ sb = _; rw [upr_ne (Ne.symm hds), upr_self], hs := hs.up s (hup _ os)
             en := fun r => by
              rw [mget]; split
              · rename_i hr; rw [(ab1 r hr).1]
              · rfl
             es := fun r => by
              rw [mget]; split
              · rename_i hr; rw [(ab1 r hr).2]
              · rfl
             hc := by rw [ab2]; exact Ow.nil (fC_len _) (fC_one _), rc := fun c e => (by omega) }
   · rw [if_neg hq] at e
     obtain ⟨nb, sb, k, sv, nm, sm, hd⟩ := h.dirs q db2 e
     exact ⟨nb, sb, k, sv, nm, sm, hd.tr he s (fun c hc => by rw [hS c hc]; simp) (fun _ _ => rfl) (fun _ _ => rfl) rfl⟩
  abs := fun q e => by
   rw [mget_put] at e
   by_cases hq : q = p
   · rw [if_pos hq] at e; cases e
   · rw [if_neg hq] at e; exact h.abs q e
  len := h.len
  fil := fun i hi => by
   obtain ⟨nv, sv, wv, k, l, hf⟩ := h.fil i hi
   exact ⟨nv, sv, wv, k, l, hf.tr he s (fun c hc => by rw [hS c hc]; simp)⟩
  ids := h.ids
  dml := by
   have : (mput g.dm p db).length = g.dm.length + 1 := by simp [mput, hp]
   show (mput g.dm p db).length ≤ _
   omega }
theorem PDk.put {c : Chg} {m' : Nms} (h : PDk K g H b D) (hp : mget g.dm p = some db) (hd : DirO g.ρ g.fb H D p db nb sb k sv nm sm) (s : Mo (Ms [nb + 1]) H H') (hm : Mp H' Str (fvl g.fb) nb m') (hm' : ∀ q, mget m' q = c.at q (mget nm q))
 (hcn : ∀ i, c.f = some i → dirP c.n = p ∧ i < D.fs.length) (hcg : c.g ≠ [] → dirP c.g = p) : PDk K g H' b { D with now := c.ap D.now } ∧ Mo (Ms K) H H' := by
 have hS : ∀ x, Ms [nb + 1] x → g.ρ x = .now p := fun x e => by
  have : x = nb := by simpa [Ms] using e
  rw [this]; exact hd.rn
 have hat : ∀ q o, dirP q ≠ p → c.at q o = o := fun q o hq => by
  unfold Chg.at
  cases hcf : c.f with
  | none =>
    simp only
    rw [if_neg (fun e => hq (by rw [e.2]; exact hcg e.1))]
  | some i =>
    simp only
    rw [if_neg (fun e => hq (by rw [e]; exact (hcn i hcf).1)), if_neg (fun e => hq (by rw [e.2]; exact hcg e.1))]
 refine ⟨?_, h.ms s (fun x e => by rw [hS x e]; simp)⟩
 have hup : ∀ x, g.ρ x ≠ .now p → ¬ Ms [nb + 1] x := fun x hx e => hx (hS x e)
 refine h.setDir (ρ' := g.ρ) s (fun x e => .inr (.inl (hS x e))) (Ext.refl _) h.hK (fun x e => Nat.lt_of_lt_of_le (h.lt x e) s.size) hp ⟨nb, sb, k, sv, m', sm, ?_⟩ ⟨rfl, rfl, rfl, rfl, rfl, rfl⟩ (fun q hq => ?_) (fun q hq => rfl) (fun n hn => rfl) ⟨fun q i e => ?_, h.ids.2.1, h.ids.2.2⟩
 · exact { rd := hd.rd, vd := hd.vd.up s (hup _ (by rw [hd.rd]; simp)), rn := hd.rn, hn := hm, rs := hd.rs, hs := hd.hs.up s (hup _ (by rw [hd.rs]; simp))
           en := fun q => by
            show _ = if dirP q = p then mget (c.ap D.now) q else none
            rw [hm', hd.en, mget_ap]
            split
            · rfl
            · rename_i hq; exact hat q none hq
           es := hd.es, hc := hd.hc.up s (fun x _ e => hup x (by rw [hd.rc x e]; simp)), rc := hd.rc }
 · show mget (c.ap D.now) q = mget D.now q
   rw [mget_ap]; exact hat q _ hq
 · have e : mget (c.ap D.now) q = some i := e
   rw [mget_ap] at e
   unfold Chg.at at e
   cases hcf : c.f with
   | none =>
     rw [hcf] at e; simp only at e
     split at e
     · cases e
     · exact h.ids.1 q i e
   | some j =>
     rw [hcf] at e; simp only at e
     split at e
     · cases e; exact (hcn _ hcf).2
     · split at e
       · cases e
       · exact h.ids.1 q i e
theorem PDk.note {c : Chg} {k2 : Nat} {sv2 : SV} (h : PDk K g H b D) (hp : mget g.dm p = some db) (hd : DirO g.ρ g.fb H D p db nb sb k sv nm sm) (s : Mo (Ms [db + 1, k]) H H') (hv : Var 173 H' db [.map (some nb), .map (some sb), sv2.v]) (hc : Ow k2 177 H' (fC g.fb) 3 sv2.v (D.chgs p ++ [c])) (hk : Nx k H.size k2)
 (hcd : c.dir = p) (hcf : ∀ i, c.f = some i → i < D.fs.length) : PDk (k2 :: K) { g with ρ := uprk g.ρ k2 (.chg p) } H' b { D with log := D.log ++ [c] } := by
 have hS : ∀ x, Ms [db + 1, k] x → g.ρ x = .dir p ∨ g.ρ x = .chg p := fun x e => by
  have : x + 1 = db + 1 ∨ x + 1 = k := by simpa [Ms] using e
  rcases this with e | e
  · exact .inl (by rw [show x = db by omega]; exact hd.rd)
  · exact .inr (hd.rc x e)
 have hx : Ext g.ρ (uprk g.ρ k2 (.chg p)) := Ext.uprk (h.nxk hk hd.rc)
 have hup : ∀ x, g.ρ x ≠ .dir p → g.ρ x ≠ .chg p → ¬ Ms [db + 1, k] x := fun x h1 h2 e => (hS x e).elim h1 h2
 have hch : ({ D with log := D.log ++ [c] } : Dk).chgs p = D.chgs p ++ [c] := by simp [Dk.chgs, hcd]
 refine h.setDir s (fun x e => (hS x e).elim .inl (fun e => .inr (.inr (.inr (.inl e))))) hx (hK_uprk h.hK (by simp)) (lt_uprk h.lt s.size hc.le) hp ⟨nb, sb, k2, sv2, nm, sm, ?_⟩ ⟨rfl, rfl, rfl, rfl, rfl, rfl⟩ (fun q hq => rfl) (fun q hq => rfl) (fun n hn => ?_) ⟨h.ids.1, h.ids.2.1, fun x hxm i e => ?_⟩
 · exact { rd := hx.of hd.rd (by simp), vd := hv, rn := hx.of hd.rn (by simp), hn := hd.hn.up s (hup _ (by rw [hd.rn]; simp) (by rw [hd.rn]; simp)), rs := hx.of hd.rs (by simp), hs := hd.hs.up s (hup _ (by rw [hd.rs]; simp) (by rw [hd.rs]; simp))
           en := hd.en, es := hd.es, hc := by rw [hch]; exact hc, rc := fun x e => uprk_self e }
 · simp [Dk.chgs, hcd, Ne.symm hn]
 · rcases List.mem_append.1 hxm with hm | hm
   · exact h.ids.2.2 x hm i e
   · rw [List.mem_singleton.1 hm] at e; exact hcf i e
theorem PDk.fnow {nw : List UInt8} {kn : Nat} {nv2 : SV} {bi : Nat} (h : PDk K g H b D) (hi : i < D.fs.length) (hf : FilO g.ρ H i (g.fb.getD i 0) (fget D.fs i) nv sv wv k l) (e : g.fb.getD i 0 = bi) (s : Mo (Ms [bi + 1]) H H') (hv : Var 186 H' bi [nv2.v, sv.v, wv.v]) (hn : Ow kn 5 H' fB 1 nv2.v nw) (hk : DL kn K) :
 PDk (kn :: K) { g with ρ := uprk g.ρ kn .frz } H' b (D.putF i ⟨nw, (fget D.fs i).stays, (fget D.fs i).w⟩) := by
 subst e
 have hS : ∀ x, Ms [g.fb.getD i 0 + 1] x → g.ρ x = .fil i := fun x e => by
  have : x = g.fb.getD i 0 := by simpa [Ms] using e
  rw [this]; exact hf.rf
 have hx : Ext g.ρ (uprk g.ρ kn .frz) := Ext.uprk (fun c e => .inl (h.newk hk c e))
 have hfz : ∀ c, Ms [g.fb.getD i 0 + 1] c → g.ρ c ≠ .frz := fun c e => by rw [hS c e]; simp
 refine h.setFil hi s (fun x e => .inl (hS x e)) hx (hK_uprk h.hK (by simp)) (lt_uprk h.lt s.size hn.le) ⟨nv2, sv, wv, k, l, ?_⟩
 exact { rf := hx.of hf.rf (by simp), vf := hv, hn := hn.rd.imp (fun c _ e => uprk_self e), hs := rd_frz hf.hs hx s hfz
         hw := hf.hw.up s (fun c _ e hc => by have := hS c hc; rw [hf.rk c e] at this; cases this), lw := hf.lw, hd := fun y hy => rd_frz (hf.hd y hy) hx s hfz, rk := fun c e => hx.of (hf.rk c e) (by simp) }
theorem PDk.fwr {w : Wr} {sd wv2 : SV} {kd k2 bi : Nat} (h : PDk K g H b D) (hi : i < D.fs.length) (hf : FilO g.ρ H i (g.fb.getD i 0) (fget D.fs i) nv sv wv k l) (e : g.fb.getD i 0 = bi) (s : Mo (Ms [bi + 1, k]) H H') (hv : Var 186 H' bi [nv.v, sv.v, wv2.v]) (hw : Ow k2 275 H' fW 2 wv2.v (l ++ [(w, sd)])) (hk2 : Nx k H.size k2)
 (hd : Ow kd 5 H' fB 1 sd.v w.d) (hk : DL kd (k2 :: K)) :
 PDk (kd :: k2 :: K) { g with ρ := uprk (uprk g.ρ k2 (.wrs i)) kd .frz } H' b (D.putF i ⟨(fget D.fs i).now, (fget D.fs i).stays, (fget D.fs i).w ++ [w]⟩) := by
 subst e
 have hS : ∀ x, Ms [g.fb.getD i 0 + 1, k] x → g.ρ x = .fil i ∨ g.ρ x = .wrs i := fun x e => by
  have : x + 1 = g.fb.getD i 0 + 1 ∨ x + 1 = k := by simpa [Ms] using e
  rcases this with e | e
  · exact .inl (by rw [show x = g.fb.getD i 0 by omega]; exact hf.rf)
  · exact .inr (hf.rk x e)
 have hx1 : Ext g.ρ (uprk g.ρ k2 (.wrs i)) := Ext.uprk (h.nxk hk2 hf.rk)
 have hkd : ∀ c, c + 1 = kd → c + 1 ≠ k2 ∧ g.ρ c = .out := fun c e => by
  have h1 : c + 1 ≠ k2 := fun e2 => hk k2 List.mem_cons_self c e e2
  exact ⟨h1, h.newk (fun k hk2 => hk k (List.mem_cons_of_mem _ hk2)) c e⟩
 have hx2 : Ext (uprk g.ρ k2 (.wrs i)) (uprk (uprk g.ρ k2 (.wrs i)) kd .frz) := Ext.uprk (fun c e => .inl (by rw [uprk_ne (hkd c e).1]; exact (hkd c e).2))
 have hx := hx1.trans hx2
 have hfz : ∀ c, Ms [g.fb.getD i 0 + 1, k] c → g.ρ c ≠ .frz := fun c e => by rcases hS c e with e | e <;> (rw [e]; simp)
 refine h.setFil hi s (fun x e => (hS x e).elim .inl (fun e => .inr (.inl e))) hx (hK_uprk (hK_uprk h.hK (by simp)) (by simp)) (lt_uprk (lt_uprk h.lt s.size hw.le) (Nat.le_refl _) hd.le) ⟨nv, sv, wv2, k2, l ++ [(w, sd)], ?_⟩
 exact { rf := hx.of hf.rf (by simp), vf := hv, hn := rd_frz hf.hn hx s hfz, hs := rd_frz hf.hs hx s hfz, hw := hw, lw := by rw [List.map_append, hf.lw]; rfl
         hd := fun y hy => by
          rcases List.mem_append.1 hy with hy | hy
          · exact rd_frz (hf.hd y hy) hx s hfz
          · rw [List.mem_singleton.1 hy]; exact hd.rd.imp (fun c _ e => uprk_self e)
         rk := fun c e => by rw [uprk_ne (fun e2 => (hkd c e2).1 e)]; exact uprk_self e }
theorem PDk.fsync {bi : Nat} (h : PDk K g H b D) (hi : i < D.fs.length) (hf : FilO g.ρ H i (g.fb.getD i 0) (fget D.fs i) nv sv wv k l) (e : g.fb.getD i 0 = bi) (s : Mo (Ms [bi + 1]) H H') (hv : Var 186 H' bi [nv.v, nv.v, .slice none 0 0]) : PDk K g H' b (D.syncF i) := by
 subst e
 have hS : ∀ x, Ms [g.fb.getD i 0 + 1] x → g.ρ x = .fil i := fun x e => by
  have : x = g.fb.getD i 0 := by simpa [Ms] using e
  rw [this]; exact hf.rf
 have hfz : ∀ c, Ms [g.fb.getD i 0 + 1] c → g.ρ c ≠ .frz := fun c e => by rw [hS c e]; simp
 refine h.setFil (ρ' := g.ρ) hi s (fun x e => .inl (hS x e)) (Ext.refl _) h.hK (fun c e => Nat.lt_of_lt_of_le (h.lt c e) s.size) ⟨nv, nv, ⟨none, 0, 0⟩, 0, [], ?_⟩
 exact { rf := hf.rf, vf := hv, hn := rd_frz hf.hn (Ext.refl _) s hfz, hs := rd_frz hf.hn (Ext.refl _) s hfz, hw := Ow.nil fW_len fW_one, lw := rfl, hd := fun y hy => (by cases hy), rk := fun c e => (by omega) }
theorem FilO.atb {b0 bi : Nat} (h : FilO ρ H i b0 x nv sv wv k l) (e : b0 = bi) : Var 186 H bi [nv.v, sv.v, wv.v] := e ▸ h.vf
theorem PDk.kmf {b0 bi : Nat} (h : PDk K g H b D) (hf : FilO g.ρ H i b0 x nv sv wv k l) (e : b0 = bi) : KM K (bi + 1) := e ▸ h.km1 hf.rf (by simp)
theorem FilO.ne {b0 bi : Nat} (h : FilO ρ H i b0 x nv sv wv k l) (e : b0 = bi) : Dj (bi + 1) k := fun c h1 h2 => by
 have h3 := h.rk c h2
 rw [show c = b0 by omega, h.rf] at h3; cases h3
theorem PDk.dsync {s2 : Nat} {sm2 : Nms} (h : PDk K g H b D) (hA : Asc D.now) (hp : mget g.dm p = some db) (hd : DirO g.ρ g.fb H D p db nb sb k sv nm sm) (s : Mo (Ms [db + 1]) H H') (hv : Var 173 H' db [.map (some nb), .map (some s2), .slice none 0 0]) (hm : Mp H' Str (fvl g.fb) s2 sm2) (hm2 : ∀ q, mget sm2 q = mget nm q) (hk : DL (s2 + 1) K) :
 PDk ((s2 + 1) :: K) { g with ρ := uprk g.ρ (s2 + 1) (.sty p) } H' b (D.stayD p) := by
 have hS : ∀ x, Ms [db + 1] x → g.ρ x = .dir p := fun x e => by
  have : x = db := by simpa [Ms] using e
  rw [this]; exact hd.rd
 have hx : Ext g.ρ (uprk g.ρ (s2 + 1) (.sty p)) := Ext.uprk (fun c e => .inl (h.newk hk c e))
 have hup : ∀ x, g.ρ x ≠ .dir p → ¬ Ms [db + 1] x := fun x hx e => hx (hS x e)
 have hst : ∀ q, mget (D.stayD p).stays q = if dirP q = p then mget D.now q else mget D.stays q := fun q => mget_merge hA p q
 refine h.setDir s (fun x e => .inl (hS x e)) hx (hK_uprk h.hK (by simp)) (lt_uprk h.lt s.size hm.lt) hp ⟨nb, s2, 0, ⟨none, 0, 0⟩, nm, sm2, ?_⟩ ⟨rfl, rfl, rfl, rfl, rfl, rfl⟩ (fun q hq => rfl) (fun q hq => by rw [hst, if_neg hq]) (fun n hn => ?_) ⟨h.ids.1, fun q i e => ?_, fun c hc i e => h.ids.2.2 c (List.mem_filter.1 hc).1 i e⟩
 · exact { rd := hx.of hd.rd (by simp), vd := hv, rn := hx.of hd.rn (by simp), hn := hd.hn.up s (hup _ (by rw [hd.rn]; simp)), rs := uprk_self rfl, hs := hm, en := hd.en
           es := fun q => by
            rw [hm2, hd.en, hst]
            split <;> rfl
           hc := by
            have : (D.stayD p).chgs p = [] := by unfold Dk.stayD Dk.chgs; rw [List.filter_filter, List.filter_eq_nil_iff]; intro c _; simp
            rw [this]; exact Ow.nil (fC_len _) (fC_one _)
           rc := fun c e => (by omega) }
 · unfold Dk.stayD Dk.chgs
   rw [List.filter_filter]
   refine List.filter_congr (fun c _ => ?_)
   by_cases e : c.dir = n
   · simp [e, hn]
   · simp [e]
 · rw [hst] at e
   split at e
   · exact h.ids.1 q i e
   · exact h.ids.2.1 q i e
end
end Go.Proofs.YtfjmpninmdjcaaaGreatDoor.SimC

namespace Go.Proofs.YtfjmpninmdjcaaaGreatDoor.SimD
open E Go.RowKit SimA SimB SimC
set_option maxRecDepth 20000
def Chg.apM (c : Chg) (m : Nms) : Nms :=
 let m1 := if c.g = [] then m else mdel m c.g
 match c.f with
 | none => m1
 | some i => mput m1 c.n i
theorem mget_apM (c : Chg) (l : Nms) (q : Pth) : mget (Chg.apM c l) q = c.at q (mget l q) := by
 unfold Chg.apM Chg.at
 cases c.f with
 | none =>
   simp only
   by_cases hg : c.g = []
   · simp [hg]
   · rw [if_neg hg, mget_del]; simp [hg]
 | some i =>
   simp only
   rw [mget_put]
   by_cases hg : c.g = []
   · simp [hg]
   · rw [if_neg hg, mget_del]; simp [hg]
theorem put_ct (fb : List Nat) (nb : Nat) (m : Nms) (c : Chg) (w0 : World) (H0 : Heap)
 (hm : Mp H0 Str (fvl fb) nb m) :
 Ct Tryz.prog w0 78 #[.map (some nb), .agg (fC fb c).toArray] H0 (fun r H2 => (Mp H2 Str (fvl fb) nb (Chg.apM c m)) ∧ Mo (Ms [(nb + 1)]) H0 H2) := by
 refine Ct.enter (args := [.map (some nb), .agg (fC fb c).toArray]) Tryz.func78 rfl rfl rfl ?_
 intro Q0 hret
 have hm0 : Mo (Ms [(nb + 1)]) H0 H0 := Mo.refl _ _
 have nx_hm0_hm := Nx.refl (nb + 1) H0.size
 have hlt_hm := hm.lt
 refine CW.s1 (fun hK1 => CW.region ?_)
 refine LR.z1 (Z.boxv rfl rfl) fun v3 H3 r3 => ?_
 obtain ⟨rfl, vc, hs3, ob3, hH3⟩ := r3
 have hzs3 : H3.size = H0.size + 1 := by rw [hH3]; simp
 have dj1 : Dj (nb + 1) (H0.size + 1) := Dj.new hm.lt
 replace hm := hm.nw hs3
 replace hm0 := hm0.trN hs3
 have hz1 := hs3.size
 replace vc : Var 177 H3 H0.size (fC fb c) := vc
 refine LR.nil (hK1 _ _ ?_)
 refine CW.cut (fun (m1 : (Nms)) => [(0, .map (some nb)), (3, .pointer (some ⟨H0.size, 0, none⟩))])
  (fun (m1 : (Nms)) (H : Heap) => (Mp H Str (fvl fb) nb m1) ∧ (m1 = if c.g = [] then m else mdel m c.g) ∧ Mo (Ms [(nb + 1)]) H3 H) (fun _ hK2 _ => ?_) ?_
 ·
  have hcm2 : Mo (Ms [(nb + 1)]) H3 H3 := Mo.refl _ _
  have nx_hcm2_hm := Nx.refl (nb + 1) H3.size
  refine CW.s1 (fun hK3 => CW.region ?_)
  refine LR.v1 (Y.FA vc.pt rfl u'177 rfl s'9) ?_
  refine LR.v1 (Y.load1 vc.pt rfl a'9 rfl) ?_
  refine LR.v1 (Y.sneq rfl rfl rfl) (LR.nil (hK3 _ _ ?_))
  refine CW.condp rfl (fun c6 => ?_) (fun c6 => ?_)
  ·
   refine CW.region ?_
   refine LR.m1 ?_
   refine LR.v1 (Y.FA vc.pt rfl u'177 rfl s'9) ?_
   refine LR.v1 (Y.load1 vc.pt rfl a'9 rfl) ?_
   refine LR.zn (Z.delS hm keyStr rfl u'168 Tryz.underlying9 rfl rfl) (Wd.u rfl) rfl (fun v2_3 H2_3 r2_3 => ?_)
   obtain ⟨rfl, hm, hs2_3⟩ := r2_3
   replace hs2_3 := hs2_3.md1
   replace hcm2 := hcm2.trL hs2_3 (MIL.o (MI.r nx_hcm2_hm))
   have hz2 := hs2_3.size
   refine LR.nil ?_
   refine QN.sub (hK2 (mdel m c.g) _ ?_) ⟨rfl, rfl, trivial⟩
   exact ⟨hm, by rw [if_neg (by simpa using c6)], hcm2⟩
  ·
   refine CW.skip ?_
   refine QN.sub (hK2 m _ ?_) ⟨rfl, rfl, trivial⟩
   exact ⟨hm, by rw [if_pos (by simpa using c6)], hcm2⟩
 ·
  intro m1 Hcutc6 hIcutc6
  obtain ⟨hm, hm1, hlmcutc6⟩ := hIcutc6
  replace vc := vc.upL hlmcutc6 (DL.o dj1.symm)
  replace hm0 := hm0.trL hlmcutc6 (MIL.o (MI.r nx_hm0_hm))
  refine CW.s1 (fun hK4 => CW.region ?_)
  refine LR.v1 (Y.FA vc.pt rfl u'177 rfl s'175) ?_
  refine LR.v1 (Y.load1 (vc.pt.drop 2) rfl a'175 rfl) ?_
  refine LR.v1 (Y.pne rfl (by kernel_rfl) (by kernel_rfl) rfl rfl) (LR.nil (hK4 _ _ ?_))
  refine CW.cond rfl (fun c12 => ?_) (fun c12 => ?_)
  ·
   obtain ⟨i, hci⟩ : ∃ i, c.f = some i := by
    cases hcf : c.f with
    | none => rw [hcf] at c12; cases c12
    | some i => exact ⟨i, rfl⟩
   refine CW.region ?_
   refine LR.m1 ?_
   refine LR.v1 (Y.FA vc.pt rfl u'177 rfl s'9) ?_
   refine LR.v1 (Y.load1 (vc.pt.drop 1) rfl a'9 rfl) ?_
   refine LR.v1 (Y.FA vc.pt rfl u'177 rfl s'175) ?_
   refine LR.v1 (Y.cast (v2 := fvl fb i) (Y.load1 (vc.pt.drop 2) rfl a'175 rfl) (by rw [hci]; rfl)) ?_
   refine LR.s1 (S.putMp (i) hm keyStr rfl u'168 Tryz.underlying9 rfl rfl rfl) fun H4_5 r4_5 => ?_
   obtain ⟨hm, hs4_5⟩ := r4_5
   replace hs4_5 := hs4_5.md1
   replace hm0 := hm0.trL hs4_5 (MIL.o (MI.r nx_hm0_hm))
   refine LR.nil ?_
   refine hret .normal (.inl rfl) _ _ _ (res0 rfl) ?_
   exact ⟨by rw [Chg.apM, ← hm1, hci]; exact hm, hm0⟩
  ·
   refine CW.skip ?_
   refine hret .normal (.inl rfl) _ _ _ (res0 rfl) ?_
   exact ⟨by
    have h9 : c.f = none := by
     cases hcf : c.f with
     | none => rfl
     | some i => rw [hcf] at c12; cases c12
    rw [Chg.apM, ← hm1, h9]; exact hm, hm0⟩
theorem add_ct (e : TypeId) (b : Nat) (cs : List Value) (x y : Int) (w0 : World) (H0 : Heap)
 (hv : Var e H0 b cs) (hc : cs[3]? = some (.int .i64 x)) (hxy : -9223372036854775808 ≤ x + y ∧ x + y ≤ 9223372036854775807) :
 Ct Tryz.prog w0 225 #[.pointer (some ⟨b, 3, none⟩), .int .i64 y] H0 (fun r H2 => r = .int .i64 (x + y) ∧ (Var e H2 b (cs.set 3 (.int .i64 (x + y)))) ∧ Mo (Ms [(b + 1)]) H0 H2) := by
 refine Ct.enter (args := [.pointer (some ⟨b, 3, none⟩), .int .i64 y]) Tryz.func225 rfl rfl rfl ?_
 intro Q0 hret
 have hm0 : Mo (Ms [(b + 1)]) H0 H0 := Mo.refl _ _
 have nx_hm0_hv := Nx.refl (b + 1) H0.size
 refine CW.s1 (fun hK1 => CW.region ?_)
 refine LR.a1 (LR.nil (hK1 _ _ ?_))
 refine CW.s1 (fun hK2 => CW.region ?_)
 refine LR.m1 ?_
 refine LR.v1 (Y.nilCheck rfl rfl) ?_
 refine LR.v1 (Y.FA (hv.pt.drop 3) rfl u'100 rfl s'2) ?_
 refine LR.m1 ?_
 refine LR.z1 (Z.add64 hv hc rfl Tryz.func259 (by kernel_rfl) (by kernel_rfl) (by kernel_rfl) (by kernel_rfl) rfl hxy) fun v9 H9 r9 => ?_
 obtain ⟨rfl, hv, hs9⟩ := r9
 replace hs9 := hs9.md1
 replace hm0 := hm0.trL hs9 (MIL.o (MI.r nx_hm0_hv))
 refine LR.a1 (LR.nil (hK2 _ _ ?_))
 refine CW.ret (hret .ret (.inr rfl) _ _ _ (res1 rfl rfl) ?_)
 exact ⟨rfl, hv, hm0⟩
section
variable {w0 : World} {n : Nat} {l : FL} {H : Heap} {o : Oper} {K : List Nat} {g : Gh} {b lv : Nat} {D : Dk} {x y : Operand} {t : TypeId}
theorem pd_left (h : PDk K g H b D) (lv : Nat) (ho : o.op = .store t x y) (hx : opv l x = some (.pointer (some ⟨b, 4, none⟩))) (hy : opv l y = some (.int .i64 (lv : Int))) (hs : ∀ w, (sizeOf t).run Tryz.prog w = .ok 1 w) (hl : lv ≤ 9223372036854775807) :
 S Tryz.prog w0 n l H o (fun H' => PDk K { g with lv := lv } H' b { D with left := lv } ∧ Mo (Ms K) H H') :=
 (S.var1 h.vb 4 _ ho hx hy rfl hs (by simp) rfl).mono fun H' ⟨h1, h2⟩ => ⟨h.setFs h2.md1 ⟨rfl, rfl, rfl, rfl⟩ h1 (fun _ => rfl) hl ⟨rfl, rfl, rfl, rfl, rfl, rfl⟩ (Nat.le_refl _), h.ms h2 (fun c e => by rw [e, h.rb]; simp)⟩
theorem pd_dead (h : PDk K g H b D) (dd : Bool) (hdd : dd = false → D.dead = false) (ho : o.op = .store t x y) (hx : opv l x = some (.pointer (some ⟨b, 5, none⟩))) (hy : opv l y = some (.bool dd)) (hs : ∀ w, (sizeOf t).run Tryz.prog w = .ok 1 w) :
 S Tryz.prog w0 n l H o (fun H' => PDk K g H' b { D with dead := dd } ∧ Mo (Ms K) H H') :=
 (S.var1 h.vb 5 _ ho hx hy rfl hs (by simp) rfl).mono fun H' ⟨h1, h2⟩ => ⟨h.setFs h2.md1 ⟨rfl, rfl, rfl, rfl⟩ h1 (fun e => h.lvD (hdd e)) h.lvB ⟨rfl, rfl, rfl, rfl, rfl, rfl⟩ (Nat.le_refl _), h.ms h2 (fun c e => by rw [e, h.rb]; simp)⟩
theorem pd_leftany (h : PDk K g H b D) (hd : D.dead = true) (x : Nat) : PDk K g H b { D with left := x } :=
 { h with
   lvD := fun e => (by rw [show ({ D with left := x } : Dk).dead = D.dead from rfl, hd] at e; cases e)
   dirs := fun p db e => (by
    obtain ⟨nb, sb, k, sv, nm, sm, q⟩ := h.dirs p db e
    exact ⟨nb, sb, k, sv, nm, sm, { q with en := q.en, es := q.es, hc := q.hc }⟩) }
theorem begin_F {dd : Bool} {x : Nat} (hl : D.dead = false → lv = D.left) (h : PDk K g H b { D with left := x, dead := dd }) (hdd : dd = true) (hcase : D.dead = true ∨ (D.dead = false ∧ lv = 1 ∧ x = 0)) : PDk K g H b D.begin.2 ∧ .bool false = Value.bool D.begin.1 := by
 subst hdd
 rcases hcase with hd | ⟨hd, h1, h2⟩
 · have e : D.begin = (false, D) := by unfold Dk.begin; rw [if_pos hd]
   rw [e]
   refine ⟨?_, rfl⟩
   have := pd_leftany h rfl D.left
   obtain ⟨cap, most, fs, now, stays, log, ops, left, dead⟩ := D
   simp only at hd
   subst hd
   exact this
 · have := hl hd
   have e : D.begin = (false, { D with left := 0, dead := true }) := by unfold Dk.begin; rw [if_neg (by simp [hd]), if_pos (by omega)]
   rw [e]
   subst h2
   exact ⟨h, rfl⟩
theorem begin_T {dd : Bool} {x : Nat} (h : PDk K g H b { D with left := x, dead := dd, ops := D.ops + 1 }) (hdd : dd = false) (hd : D.dead = false) (h1 : D.left ≠ 1) (hx : x = D.left - 1) : PDk K g H b D.begin.2 ∧ .bool true = Value.bool D.begin.1 := by
 subst hdd; subst hx
 have e : D.begin = (true, { D with left := D.left - 1, ops := D.ops + 1 }) := by unfold Dk.begin; rw [if_neg (by simp [hd]), if_neg h1]
 rw [e]
 obtain ⟨cap, most, fs, now, stays, log, ops, left, dead⟩ := D
 simp only at hd
 subst hd
 exact ⟨h, rfl⟩
end
theorem addD_ct {K : List Nat} {g : Gh} {b : Nat} {D : Dk} (w0 : World) (H0 : Heap) (h : PDk K g H0 b D) (ho : D.ops ≤ 1099511627776) : Ct Tryz.prog w0 225 #[.pointer (some ⟨b, 3, none⟩), .int .i64 1] H0 (fun r H2 => r = .int .i64 ((D.ops : Int) + 1) ∧ PDk K g H2 b { D with ops := D.ops + 1 } ∧ Mo (Ms K) H0 H2) :=
 (add_ct _ b _ (D.ops : Int) 1 w0 H0 h.vb rfl (by omega)).mono fun r H2 ⟨h1, h2, h3⟩ => ⟨h1, h.setFs h3 ⟨rfl, rfl, rfl, rfl⟩ h2 h.lvD h.lvB ⟨rfl, rfl, rfl, rfl, rfl, rfl⟩ (Nat.le_succ _), h.ms h3 (fun c e => by
  have : c = b := by simpa [Ms] using e
  rw [this, h.rb]; simp)⟩
theorem begin_ct (K : List Nat) (g : Gh) (b : Nat) (D : Dk) (w0 : World) (H0 : Heap)
 (hf : PDk K g H0 b D) (ho : D.ops ≤ 1099511627776) :
 Ct Tryz.prog w0 184 #[ptr b] H0 (fun r H2 => ∃ g2 : Gh, r = .bool D.begin.1 ∧ (PDk K g2 H2 b D.begin.2) ∧ (g2.ρ = g.ρ ∧ g2.fb = g.fb ∧ g2.mb = g.mb ∧ g2.dm = g.dm) ∧ Mo (Ms K) H0 H2) := by
 refine Ct.enter (args := [ptr b]) Tryz.func184 rfl rfl rfl ?_
 intro Q0 hret
 have hm0 : Mo (Ms K) H0 H0 := Mo.refl _ _
 have nx_hm0_hf := NxK.refl K H0.size
 have hbk_hf := hf.bk
 have hlb := hf.lvB
 have hld := hf.lvD
 refine CW.s1 (fun hK1 => CW.region ?_)
 refine LR.a1 (LR.nil (hK1 _ _ ?_))
 refine CW.s1 (fun hK2 => CW.s1 (fun hK3 => CW.region ?_))
 refine LR.m1 ?_
 refine LR.v1 (Y.nilCheck rfl rfl) ?_
 refine LR.v1 (Y.FA hf.vb.pt rfl u'102 rfl s'3) ?_
 refine LR.v1 (Y.load1 (hf.vb.pt.drop 4) rfl a'3 rfl) ?_
 refine LR.v1 (Y.gtr rfl rfl rfl) (LR.nil (hK3 _ _ ?_))
 refine CW.condp rfl (fun c7 => ?_) (fun c7 => ?_)
 ·
  refine CW.s1 (fun hK4 => CW.region ?_)
  refine LR.m1 ?_
  refine LR.v1 (Y.nilCheck rfl rfl) ?_
  refine LR.v1 (Y.FA hf.vb.pt rfl u'102 rfl s'3) ?_
  refine LR.v1 (Y.load1 (hf.vb.pt.drop 4) rfl a'3 rfl) ?_
  refine LR.v1 (Y.cast (v2 := .int .i64 ((g.lv - 1 : Nat) : Int)) (Y.subi rfl rfl rfl (by omega)) (ivv (by omega))) ?_
  refine LR.v1 (Y.nilCheck rfl rfl) ?_
  refine LR.v1 (Y.FA hf.vb.pt rfl u'102 rfl s'3) ?_
  refine LR.s1 (pd_left hf (g.lv - 1) rfl rfl rfl s'3 (by omega)) fun H2_7 r2_7 => ?_
  obtain ⟨hf, hs2_7⟩ := r2_7
  replace hm0 := hm0.trL hs2_7 (MIL.ofK (nx_hm0_hf) (by intro k hk; simp [hk]))
  have hz1 := hs2_7.size
  have hbk_hf := hf.bk
  refine LR.nil (hK4 _ _ (CW.region ?_))
  refine LR.m1 ?_
  refine LR.m1 ?_
  refine LR.v1 (Y.nilCheck rfl rfl) ?_
  refine LR.v1 (Y.FA hf.vb.pt rfl u'102 rfl s'4) ?_
  refine LR.v1 (Y.load1 (hf.vb.pt.drop 5) rfl a'4 rfl) ?_
  refine LR.m1 ?_
  refine LR.split (d := 20) rfl (fun g20 => ?_) (fun g20 => ?_)
  ·
   refine LR.g1 ?_
   refine LR.g1 ?_
   refine LR.g1 ?_
   refine LR.g1 ?_
   refine LR.g1 ?_
   refine LR.v1 (Y.pick_t rfl rfl rfl) ?_
   refine LR.v1 (Y.nilCheck rfl rfl) ?_
   refine LR.v1 (Y.FA hf.vb.pt rfl u'102 rfl s'4) ?_
   refine LR.s1 (pd_dead hf _ (by intro h; first | exact g20 | cases h) rfl rfl rfl s'4) fun H3_14 r3_14 => ?_
   obtain ⟨hf, hs3_14⟩ := r3_14
   replace hm0 := hm0.trL hs3_14 (MIL.ofK (nx_hm0_hf) (by intro k hk; simp [hk]))
   have hz2 := hs3_14.size
   have hbk_hf := hf.bk
   refine LR.nil (hK2 _ _ (CW.s2 (fun hK5 hE5 => CW.s1 (fun hK6 => CW.region ?_))))
   refine LR.m1 ?_
   refine LR.v1 (Y.nilCheck rfl rfl) ?_
   refine LR.v1 (Y.FA hf.vb.pt rfl u'102 rfl s'4) ?_
   refine LR.v1 (Y.load1 (hf.vb.pt.drop 5) rfl a'4 rfl) (LR.nil (hK6 _ _ ?_))
   refine CW.cond rfl (fun c32 => ?_) (fun c32 => ?_)
   ·
    first
    | (simp at c32; done)
    | skip
      refine CW.s1 (fun hK7 => CW.region ?_)
      refine LR.a1 (LR.nil (hK7 _ _ ?_))
      refine CW.ret (hE5 .ret nofun _ _ (hret .ret (.inr rfl) _ _ _ (res1 rfl rfl) ?_))
      have hq := begin_F hld hf (by first | rfl | exact c32) (by first | exact .inl g20 | exact .inr ⟨g20, by simp at c32; omega, by simp at c32; omega⟩)
      exact ⟨_, hq.2, hq.1, ⟨rfl, rfl, rfl, rfl⟩, hm0⟩
   ·
    first
    | (simp at c32; done)
    | skip
      refine CW.skip (hK5 _ _ (CW.s1 (fun hK8 => CW.region ?_)))
      refine LR.m1 ?_
      refine LR.v1 (Y.nilCheck rfl rfl) ?_
      refine LR.v1 (Y.FA hf.vb.pt rfl u'102 rfl s'100) ?_
      refine LR.call rfl c'225 rfl (Wd.u rfl) rfl rfl (addD_ct w0 _ hf ho) (fun v36 H36 r36 => ?_)
      obtain ⟨rfl, hf, hs36⟩ := r36
      replace hm0 := hm0.trL hs36 (MIL.ofK (nx_hm0_hf) (by intro k hk; simp [hk]))
      have hz3 := hs36.size
      refine LR.nil (hK8 _ _ (CW.s1 (fun hK9 => CW.region ?_)))
      refine LR.a1 (LR.nil (hK9 _ _ ?_))
      refine CW.ret (hret .ret (.inr rfl) _ _ _ (res1 rfl rfl) ?_)
      obtain ⟨g2, hq⟩ : ∃ g2 : Gh, (PDk K g2 H36 b D.begin.2 ∧ .bool true = Value.bool D.begin.1) ∧ (g2.ρ = g.ρ ∧ g2.fb = g.fb ∧ g2.mb = g.mb ∧ g2.dm = g.dm) := by
       first
       | exact ⟨_, begin_T (x := g.lv - 1) hf (by simpa using c32) g20 (by have := hld g20; simp at c32; omega) (by have := hld g20; omega), rfl, rfl, rfl, rfl⟩
       | exact ⟨_, begin_T (x := D.left) (dd := D.dead) hf (by simpa using c32) (by simpa using c32) (by have := hld (by simpa using c32); omega) (by have := hld (by simpa using c32); omega), rfl, rfl, rfl, rfl⟩
      exact ⟨g2, hq.1.2, hq.1.1, hq.2, hm0⟩
  ·
   refine LR.w1 (Y.move rfl rfl) ?_
   refine LR.w1 (Y.nilCheck rfl rfl) ?_
   refine LR.w1 (Y.FA hf.vb.pt rfl u'102 rfl s'3) ?_
   refine LR.w1 (Y.load1 (hf.vb.pt.drop 4) rfl a'3 rfl) ?_
   refine LR.w1 (Y.eql rfl rfl rfl) ?_
   refine LR.v1 (Y.pick_f rfl rfl rfl) ?_
   refine LR.v1 (Y.nilCheck rfl rfl) ?_
   refine LR.v1 (Y.FA hf.vb.pt rfl u'102 rfl s'4) ?_
   refine LR.s1 (pd_dead hf _ (by intro h; first | exact g20 | cases h) rfl rfl rfl s'4) fun H3_14 r3_14 => ?_
   obtain ⟨hf, hs3_14⟩ := r3_14
   replace hm0 := hm0.trL hs3_14 (MIL.ofK (nx_hm0_hf) (by intro k hk; simp [hk]))
   have hz4 := hs3_14.size
   have hbk_hf := hf.bk
   refine LR.nil (hK2 _ _ (CW.s2 (fun hK10 hE10 => CW.s1 (fun hK11 => CW.region ?_))))
   refine LR.m1 ?_
   refine LR.v1 (Y.nilCheck rfl rfl) ?_
   refine LR.v1 (Y.FA hf.vb.pt rfl u'102 rfl s'4) ?_
   refine LR.v1 (Y.load1 (hf.vb.pt.drop 5) rfl a'4 rfl) (LR.nil (hK11 _ _ ?_))
   refine CW.cond rfl (fun c32 => ?_) (fun c32 => ?_)
   ·
    first
    | (simp at c32; done)
    | skip
      refine CW.s1 (fun hK12 => CW.region ?_)
      refine LR.a1 (LR.nil (hK12 _ _ ?_))
      refine CW.ret (hE10 .ret nofun _ _ (hret .ret (.inr rfl) _ _ _ (res1 rfl rfl) ?_))
      have hq := begin_F hld hf (by first | rfl | exact c32) (by first | exact .inl g20 | exact .inr ⟨g20, by simp at c32; omega, by simp at c32; omega⟩)
      exact ⟨_, hq.2, hq.1, ⟨rfl, rfl, rfl, rfl⟩, hm0⟩
   ·
    first
    | (simp at c32; done)
    | skip
      refine CW.skip (hK10 _ _ (CW.s1 (fun hK13 => CW.region ?_)))
      refine LR.m1 ?_
      refine LR.v1 (Y.nilCheck rfl rfl) ?_
      refine LR.v1 (Y.FA hf.vb.pt rfl u'102 rfl s'100) ?_
      refine LR.call rfl c'225 rfl (Wd.u rfl) rfl rfl (addD_ct w0 _ hf ho) (fun v36 H36 r36 => ?_)
      obtain ⟨rfl, hf, hs36⟩ := r36
      replace hm0 := hm0.trL hs36 (MIL.ofK (nx_hm0_hf) (by intro k hk; simp [hk]))
      have hz5 := hs36.size
      refine LR.nil (hK13 _ _ (CW.s1 (fun hK14 => CW.region ?_)))
      refine LR.a1 (LR.nil (hK14 _ _ ?_))
      refine CW.ret (hret .ret (.inr rfl) _ _ _ (res1 rfl rfl) ?_)
      obtain ⟨g2, hq⟩ : ∃ g2 : Gh, (PDk K g2 H36 b D.begin.2 ∧ .bool true = Value.bool D.begin.1) ∧ (g2.ρ = g.ρ ∧ g2.fb = g.fb ∧ g2.mb = g.mb ∧ g2.dm = g.dm) := by
       first
       | exact ⟨_, begin_T (x := g.lv - 1) hf (by simpa using c32) g20 (by have := hld g20; simp at c32; omega) (by have := hld g20; omega), rfl, rfl, rfl, rfl⟩
       | exact ⟨_, begin_T (x := D.left) (dd := D.dead) hf (by simpa using c32) (by simpa using c32) (by have := hld (by simpa using c32); omega) (by have := hld (by simpa using c32); omega), rfl, rfl, rfl, rfl⟩
      exact ⟨g2, hq.1.2, hq.1.1, hq.2, hm0⟩
 ·
  refine CW.skip (hK2 _ _ (CW.s2 (fun hK15 hE15 => CW.s1 (fun hK16 => CW.region ?_))))
  refine LR.m1 ?_
  refine LR.v1 (Y.nilCheck rfl rfl) ?_
  refine LR.v1 (Y.FA hf.vb.pt rfl u'102 rfl s'4) ?_
  refine LR.v1 (Y.load1 (hf.vb.pt.drop 5) rfl a'4 rfl) (LR.nil (hK16 _ _ ?_))
  refine CW.cond rfl (fun c32 => ?_) (fun c32 => ?_)
  ·
   first
   | (simp at c32; done)
   | skip
     refine CW.s1 (fun hK17 => CW.region ?_)
     refine LR.a1 (LR.nil (hK17 _ _ ?_))
     refine CW.ret (hE15 .ret nofun _ _ (hret .ret (.inr rfl) _ _ _ (res1 rfl rfl) ?_))
     have hq := begin_F (x := D.left) (dd := D.dead) hld hf (by simpa using c32) (.inl (by simpa using c32))
     exact ⟨_, hq.2, hq.1, ⟨rfl, rfl, rfl, rfl⟩, hm0⟩
  ·
   first
   | (simp at c32; done)
   | skip
     refine CW.skip (hK15 _ _ (CW.s1 (fun hK18 => CW.region ?_)))
     refine LR.m1 ?_
     refine LR.v1 (Y.nilCheck rfl rfl) ?_
     refine LR.v1 (Y.FA hf.vb.pt rfl u'102 rfl s'100) ?_
     refine LR.call rfl c'225 rfl (Wd.u rfl) rfl rfl (addD_ct w0 _ hf ho) (fun v36 H36 r36 => ?_)
     obtain ⟨rfl, hf, hs36⟩ := r36
     replace hm0 := hm0.trL hs36 (MIL.ofK (nx_hm0_hf) (by intro k hk; simp [hk]))
     have hz6 := hs36.size
     refine LR.nil (hK18 _ _ (CW.s1 (fun hK19 => CW.region ?_)))
     refine LR.a1 (LR.nil (hK19 _ _ ?_))
     refine CW.ret (hret .ret (.inr rfl) _ _ _ (res1 rfl rfl) ?_)
     obtain ⟨g2, hq⟩ : ∃ g2 : Gh, (PDk K g2 H36 b D.begin.2 ∧ .bool true = Value.bool D.begin.1) ∧ (g2.ρ = g.ρ ∧ g2.fb = g.fb ∧ g2.mb = g.mb ∧ g2.dm = g.dm) := by
      first
      | exact ⟨_, begin_T (x := g.lv - 1) hf (by simpa using c32) g20 (by have := hld g20; simp at c32; omega) (by have := hld g20; omega), rfl, rfl, rfl, rfl⟩
      | exact ⟨_, begin_T (x := D.left) (dd := D.dead) hf (by simpa using c32) (by simpa using c32) (by have := hld (by simpa using c32); omega) (by have := hld (by simpa using c32); omega), rfl, rfl, rfl, rfl⟩
     exact ⟨g2, hq.1.2, hq.1.1, hq.2, hm0⟩
section
open Go.MapKept
variable {P : Program} {w0 : World} {n : Nat} {l : FL} {H : Heap} {o : Oper} {κ β : Type} [DecidableEq κ] {G : Nat → Prop} {fk : κ → Value} {fv : β → Value} {v : Value} {m : List (κ × β)} {d : TypeDesc}
theorem look_p {t kt et : TypeId} {x i : Operand} {k : κ} (ad : β → Addr) (h : MapOf G H fk fv v m) (hfv : ∀ b, fv b = .pointer (some (ad b))) (hfk : KeyFn d fk) (ho : o.op = .lookup t x i false) (hm : ∀ w, (underlying t).run P w = .ok (.map kt et) w) (hk : P.underlying kt = some d) (hz : ∀ w, (zeroValue et).run P w = .ok (.pointer none) w)
 (hx : opv l x = some v) (hi : opv l i = some (fk k)) : Y P w0 n l H o (.pointer ((mget m k).map ad)) := by
 intro a w hf ha
 have h1 := run_lookup (ok := false) (k := k) h hfk ha hm hk hz
 simp only [Bool.false_eq_true, if_false] at h1
 have h2 : (Instr.lookup t v (fk k) false).run P w = .ok (.pointer ((mget m k).map ad)) w := by
  rw [h1]
  cases mget m k with
  | none => rfl
  | some b => simp [hfv]
 simp [execOp, ho, hf.eval hx, hf.eval hi, h2]
end
abbrev adO (b : Nat) : Addr := ⟨b, 0, none⟩
theorem find_ct (mx_ : Int) (K : List Nat) (g : Gh) (b : Nat) (D : Dk) (p : Pth) (w0 : World) (H0 : Heap)
 (mx : MX mx_ H0) (bf_mx : BF (fun b => b = 0) H0.size) (hf : PDk K g H0 b D) (hl : p.length ≤ 4294967280) :
 Ct Tryz.prog w0 168 #[ptr b, Str p] H0 (fun r H2 => r = .tuple #[.pointer (fpt g.fb (if D.look p = 0 then mget D.now p else none)), .int .i64 (D.look p : Int)] ∧ Nw H0 H2) := by
 refine Ct.enter (args := [ptr b, Str p]) Tryz.func168 rfl rfl rfl ?_
 intro Q0 hret
 have hm0 : Nw H0 H0 := Mo.refl _ _
 have hbk_hf := hf.bk
 refine CW.s1 (fun hK1 => CW.region ?_)
 refine LR.a1 ?_
 refine LR.a1 (LR.nil (hK1 _ _ ?_))
 refine CW.s2 (fun hK2 hE2 => CW.s1 (fun hK3 => CW.region ?_))
 refine LR.m1 ?_
 refine LR.call rfl c'88 rfl (Wd.u rfl) rfl rfl (name_ct mx_ p w0 _ mx (bf_mx.mono (by omega)) hl) (fun v9 H9 r9 => ?_)
 obtain ⟨rfl, hs9⟩ := r9
 replace mx := mx.nw hs9
 replace hf := hf.nw hs9
 replace hm0 := hm0.tr hs9
 have hz1 := hs9.size
 refine LR.v1 (Y.not rfl rfl) (LR.nil (hK3 _ _ ?_))
 refine CW.cond rfl (fun c10 => ?_) (fun c10 => ?_)
 ·
  refine CW.s1 (fun hK4 => CW.region ?_)
  refine LR.a1 ?_
  refine LR.a1 (LR.nil (hK4 _ _ ?_))
  refine CW.ret (hE2 .ret nofun _ _ (hret .ret (.inr rfl) _ _ _ (res2 rfl rfl rfl) ?_))
  have hk : D.look p = 7 := by
   unfold Dk.look
   rw [if_neg (by simpa using c10)]
  exact ⟨by rw [hk]; rfl, hm0⟩
 ·
  refine CW.skip (hK2 _ _ (CW.s2 (fun hK5 hE5 => CW.s1 (fun hK6 => ?_))))
  refine CW.region_any (fun Hq => Nw H9 Hq) [] rfl ?_
  have hqs := Nw.refl H9
  refine LH.m1 0 rfl hqs ?_
  refine LH.t1 1 rfl (fun Hq hq => Y.nilCheck rfl rfl) hqs ?_
  refine LH.t1 2 rfl (fun Hq hq => Y.FA (hf.vb.pt.nw hq) rfl u'102 rfl s'95) hqs ?_
  refine LH.t1 3 rfl (fun Hq hq => Y.load1 ((hf.vb.pt.drop 2).nw hq) rfl a'95 rfl) hqs ?_
  refine LH.m1 4 rfl hqs ?_
  refine LH.o1 5 ?_
  refine LO.call rfl rfl c'177 rfl (Wd.u rfl) rfl rfl (dir_ct mx_ p w0 _ mx (bf_mx.mono (by omega)) hl) (fun v16 H16 r16 => ?_)
  obtain ⟨rfl, hs16⟩ := r16
  replace hf := hf.nw hs16
  replace hm0 := hm0.tr hs16
  have hq16 := hqs.tr hs16
  refine ⟨.inr hq16, LH.narrow (SH2 := fun Hq => Nw H16 Hq) (fun Hq hq => hq16.tr hq) ?_⟩
  have hqn16 := Nw.refl H16
  refine LH.t1 6 rfl (fun Hq hq => look_p adO (hf.hm.mo.nw hq) (fun _ => rfl) keyStr rfl u'95 Tryz.underlying9 z'166 rfl rfl) hqn16 ?_
  refine LH.t1 7 rfl (fun Hq hq => Y.assign rfl rfl) hqn16 ?_
  refine LH.done (by kernel_rfl) ?_
  have hqe := hqn16
  refine hK6 _ _ (CW.s1 (fun hK7 => CW.region ?_))
  refine LR.m1 ?_
  refine LR.v1 (Y.pne rfl (by kernel_rfl) (by kernel_rfl) rfl rfl) (LR.nil (hK7 _ _ ?_))
  refine CW.cond rfl (fun c19 => ?_) (fun c19 => ?_)
  ·
   obtain ⟨db, hdb⟩ : ∃ db, mget g.dm (dirP p) = some db := by
    cases hq : mget g.dm (dirP p) with
    | none => rw [hq] at c19; cases c19
    | some db => exact ⟨db, rfl⟩
   obtain ⟨nb, sb, kc, sv, nm, sm, hd⟩ := hf.dirs _ db hdb
   refine CW.s1 (fun hK8 => CW.region ?_)
   refine LR.v1 (Y.cast (v2 := ptr db) (Y.move rfl rfl) (by rw [hdb]; rfl)) ?_
   refine LR.v1 (Y.nilCheck rfl rfl) ?_
   refine LR.v1 (Y.FA hd.vd.pt rfl u'173 rfl s'170) ?_
   refine LR.v1 (Y.FA (hd.vd.pt.drop 0) rfl u'170 rfl s'168) ?_
   refine LR.v1 (Y.load1 ((hd.vd.pt.drop 0).drop 0) rfl a'168 rfl) ?_
   refine LR.m1 ?_
   refine LR.v1 (Y.cast (v2 := .pointer (fpt g.fb (mget D.now p))) (look_p (fun i => ⟨g.fb.getD i 0, 0, none⟩) hd.hn.mo (fun _ => rfl) keyStr rfl u'168 Tryz.underlying9 z'175 rfl rfl) (by rw [hd.en p, if_pos rfl])) ?_
   refine LR.a1 (LR.nil (hK8 _ _ ?_))
   refine CW.s1 (fun hK9 => CW.region ?_)
   refine LR.m1 ?_
   refine LR.v1 (Y.pne rfl (by kernel_rfl) (by kernel_rfl) rfl rfl) (LR.nil (hK9 _ _ ?_))
   refine CW.cond rfl (fun c28 => ?_) (fun c28 => ?_)
   ·
    refine CW.s1 (fun hK10 => CW.region ?_)
    refine LR.m1 ?_
    refine LR.a1 ?_
    refine LR.a1 (LR.nil (hK10 _ _ ?_))
    refine CW.ret (hE5 .ret nofun _ _ (hret .ret (.inr rfl) _ _ _ (res2 rfl rfl rfl) ?_))
    have hk : D.look p = 0 := by
     unfold Dk.look
     rw [if_pos (by simpa using c10), if_pos (by cases hq : mget D.now p with
      | none => rw [hq] at c28; cases c28
      | some i => rfl)]
    exact ⟨by rw [hk, if_pos rfl]; rfl, hm0⟩
   ·
    refine CW.skip (hK5 _ _ (CW.s1 (fun hK11 => CW.region ?_)))
    refine LR.a1 ?_
    refine LR.a1 (LR.nil (hK11 _ _ ?_))
    refine CW.ret (hret .ret (.inr rfl) _ _ _ (res2 rfl rfl rfl) ?_)
    have hk : D.look p = 2 := by
     unfold Dk.look
     rw [if_pos (by simpa using c10), if_neg]
     first
     | (cases hq : mget D.now p with
       | none => simp
       | some i => rw [hq] at c28; cases c28)
     | (have hnd : mget g.dm (dirP p) = none := (by cases hq : mget g.dm (dirP p) with
        | none => rfl
        | some db => rw [hq] at c19; cases c19)
        rw [((hf.abs _ hnd).1 p rfl).1]; simp)
    exact ⟨by rw [hk]; rfl, hm0⟩
  ·
   refine CW.skip (hK5 _ _ (CW.s1 (fun hK12 => CW.region ?_)))
   refine LR.a1 ?_
   refine LR.a1 (LR.nil (hK12 _ _ ?_))
   refine CW.ret (hret .ret (.inr rfl) _ _ _ (res2 rfl rfl rfl) ?_)
   have hk : D.look p = 2 := by
    unfold Dk.look
    rw [if_pos (by simpa using c10), if_neg]
    first
    | (cases hq : mget D.now p with
      | none => simp
      | some i => rw [hq] at c28; cases c28)
    | (have hnd : mget g.dm (dirP p) = none := (by cases hq : mget g.dm (dirP p) with
       | none => rfl
       | some db => rw [hq] at c19; cases c19)
       rw [((hf.abs _ hnd).1 p rfl).1]; simp)
   exact ⟨by rw [hk]; rfl, hm0⟩
end Go.Proofs.YtfjmpninmdjcaaaGreatDoor.SimD

namespace Go.Proofs.YtfjmpninmdjcaaaGreatDoor.SimE
open E Go.RowKit SimA SimB SimC SimD
set_option maxRecDepth 20000
section
variable {H : Heap} {b mb : Nat}
theorem PDk.new (cap most : Nat) (hv : Var 102 H b [.int .i64 cap, .int .i64 most, .map (some mb), .int .i64 0, .int .i64 0, .bool false]) (hm : Mp H Str ptr mb ([] : List (Pth × Nat))) (hc : cap ≤ 9223372036854775807) (hk : most ≤ 9223372036854775807) (hne : b ≠ mb) :
 PDk [b + 1, mb + 1] ⟨upr (upr (fun _ => .out) mb .dirs) b .fs, [], mb, [], 0⟩ H b (Dk.empty cap most) where
 hK := hK_upr (hK_upr (K := []) (ρ := fun _ => .out) (fun c => by simp) (by simp)) (by simp)
 lt := lt_upr (lt_upr (H := H) (fun c h => absurd rfl h) (Nat.le_refl _) hm.lt) (Nat.le_refl _) hv.lt
 rb := upr_self
 vb := hv
 lvD := fun _ => rfl
 lvB := by simp
 capB := hc
 mostB := hk
 rm := by show upr (upr (fun _ => .out) mb .dirs) b .fs mb = _; rw [upr_ne (Ne.symm hne), upr_self]
 hm := hm
 dirs := fun p db e => (by cases e)
 abs := fun p _ => ⟨fun q _ => ⟨rfl, rfl⟩, rfl⟩
 len := rfl
 fil := fun i hi => (by simp [Dk.empty] at hi)
 ids := ⟨fun p i e => (by cases e), fun p i e => (by cases e), fun c hc => (by cases hc)⟩
 dml := Nat.le_refl _
end
theorem new_ct (cap most : Nat) (w0 : World) (H0 : Heap)
 (hc : cap ≤ 9223372036854775807) (hk : most ≤ 9223372036854775807) :
 Ct Tryz.prog w0 12 #[.int .i64 (cap : Int), .int .i64 (most : Int)] H0 (fun r H2 => ∃ K : List Nat, ∃ g : Gh, ∃ b : Nat, r = .tuple #[ptr b, .int .i64 0] ∧ (PDk K g H2 b (Dk.empty cap most)) ∧ (NxK [] H0.size K) ∧ Nw H0 H2) := by
 refine Ct.enter (args := [.int .i64 (cap : Int), .int .i64 (most : Int)]) Tryz.func12 rfl rfl rfl ?_
 intro Q0 hret
 have hm0 : Nw H0 H0 := Mo.refl _ _
 refine CW.s1 (fun hK1 => CW.region ?_)
 refine LR.a1 ?_
 refine LR.a1 (LR.nil (hK1 _ _ ?_))
 refine CW.s1 (fun hK2 => CW.s1 (fun hK3 => CW.region ?_))
 refine LR.m1 ?_
 refine LR.v1 ((Y.lss rfl rfl rfl).isF (by omega)) ?_
 refine LR.m1 ?_
 refine LR.w1 (Y.move rfl rfl) ?_
 refine LR.w1 ((Y.lss rfl rfl rfl).isF (by omega)) ?_
 refine LR.v1 (Y.pick_f rfl rfl rfl) (LR.nil (hK3 _ _ ?_))
 refine CW.cond_f rfl ?_
 refine CW.skip (hK2 _ _ (CW.s1 (fun hK4 => CW.region ?_)))
 refine LR.m1 ?_
 refine LR.m1 ?_
 refine LR.z1 (Z.makeMp Str ptr rfl) fun v14 H14 r14 => ?_
 obtain ⟨rfl, hmp, hs14, ob14, hH14⟩ := r14
 have hzs14 : H14.size = H0.size + 1 := by rw [hH14]; simp
 have nx1 : Nx 0 H0.size (H0.size + 1) := Nx.new hm0.size
 replace hm0 := hm0.tr hs14
 have hz1 := hs14.size
 have hlt_hmp := hmp.lt
 refine LR.v1 (Y.build (v := .agg #[.int .i64 cap, .int .i64 most, .map (some H0.size), .int .i64 0, .int .i64 0, .bool false]) rfl rfl (by intro w; kernel_rfl)) ?_
 refine LR.z1 (Z.boxv rfl rfl) fun v16 H16 r16 => ?_
 obtain ⟨rfl, hvb, hs16, ob16, hH16⟩ := r16
 have hzs16 : H16.size = H14.size + 1 := by rw [hH16]; simp
 have nx3 : Nx 0 H0.size (H14.size + 1) := Nx.new hm0.size
 replace hmp := hmp.nw hs16
 replace hm0 := hm0.tr hs16
 have hz2 := hs16.size
 replace hvb : Var 102 H16 H14.size ([.int .i64 cap, .int .i64 most, .map (some H0.size), .int .i64 0, .int .i64 0, .bool false]) := hvb
 have nx5 := NxK.cons (nx1) (NxK.refl [] _)
 have nx6 := NxK.cons (nx3) (nx5)
 have hf := PDk.new cap most hvb hmp hc hk (by omega)
 refine LR.a1 ?_
 refine LR.a1 (LR.nil (hK4 _ _ ?_))
 refine CW.ret (hret .ret (.inr rfl) _ _ _ (res2 rfl rfl rfl) ?_)
 exact ⟨_, _, _, rfl, hf, nx6, hm0⟩
theorem newN_ct (a m : Int) (w0 : World) (H0 : Heap)
 (hn : a < 0 ∨ m < 0) :
 Ct Tryz.prog w0 12 #[.int .i64 a, .int .i64 m] H0 (fun r H2 => r = .tuple #[.pointer none, .int .i64 1] ∧ Nw H0 H2) := by
 refine Ct.enter (args := [.int .i64 a, .int .i64 m]) Tryz.func12 rfl rfl rfl ?_
 intro Q0 hret
 have hm0 : Nw H0 H0 := Mo.refl _ _
 refine CW.s1 (fun hK1 => CW.region ?_)
 refine LR.a1 ?_
 refine LR.a1 (LR.nil (hK1 _ _ ?_))
 refine CW.s2 (fun _ hE2 => CW.s1 (fun hK3 => CW.region ?_))
 refine LR.m1 ?_
 refine LR.v1 (Y.lss rfl rfl rfl) ?_
 refine LR.m1 ?_
 refine LR.splitp (d := 8) rfl (fun g8 => ?_) (fun g8 => ?_)
 ·
  refine LR.g1 ?_
  refine LR.g1 ?_
  refine LR.v1 (Y.cast (v2 := .bool true) (Y.pick_t rfl rfl rfl) (by first | rfl | (congr 1; simp; omega))) (LR.nil (hK3 _ _ ?_))
  refine CW.cond_t rfl ?_
  refine CW.s1 (fun hK4 => CW.region ?_)
  refine LR.a1 ?_
  refine LR.a1 (LR.nil (hK4 _ _ ?_))
  refine CW.ret (hE2 .ret nofun _ _ (hret .ret (.inr rfl) _ _ _ (res2 rfl rfl rfl) ?_))
  exact ⟨rfl, hm0⟩
 ·
  refine LR.w1 (Y.move rfl rfl) ?_
  refine LR.w1 (Y.lss rfl rfl rfl) ?_
  refine LR.v1 (Y.cast (v2 := .bool true) (Y.pick_f rfl rfl rfl) (by first | rfl | (congr 1; simp; omega))) (LR.nil (hK3 _ _ ?_))
  refine CW.cond_t rfl ?_
  refine CW.s1 (fun hK5 => CW.region ?_)
  refine LR.a1 ?_
  refine LR.a1 (LR.nil (hK5 _ _ ?_))
  refine CW.ret (hE2 .ret nofun _ _ (hret .ret (.inr rfl) _ _ _ (res2 rfl rfl rfl) ?_))
  exact ⟨rfl, hm0⟩
theorem read_ct (mx_ : Int) (K : List Nat) (g : Gh) (b : Nat) (D : Dk) (p : Pth) (w0 : World) (H0 : Heap)
 (mx : MX mx_ H0) (bf_mx : BF (fun b => b = 0) H0.size) (hf : PDk K g H0 b D) (hl : p.length ≤ 4294967280) (hB : ∀ i, (fget D.fs i).now.length ≤ 1099511627776) :
 Ct Tryz.prog w0 89 #[ptr b, Str p] H0 (fun r H2 => ∃ s : SV, ∃ k : Nat, r = .tuple #[s.v, .int .i64 (D.readE p : Int)] ∧ (Ow k 5 H2 fB 1 s.v (D.readL p)) ∧ (Nx 0 H0.size k) ∧ Nw H0 H2) := by
 refine Ct.enter (args := [ptr b, Str p]) Tryz.func89 rfl rfl rfl ?_
 intro Q0 hret
 have hm0 : Nw H0 H0 := Mo.refl _ _
 have hbk_hf := hf.bk
 refine CW.s1 (fun hK1 => CW.region ?_)
 refine LR.a1 ?_
 refine LR.a1 (LR.nil (hK1 _ _ ?_))
 refine CW.s2 (fun hK2 hE2 => CW.s1 (fun hK3 => CW.region ?_))
 refine LR.m1 ?_
 refine LR.v1 (Y.nilCheck rfl rfl) ?_
 refine LR.v1 (Y.FA hf.vb.pt rfl u'102 rfl s'4) ?_
 refine LR.v1 (Y.load1 (hf.vb.pt.drop 5) rfl a'4 rfl) (LR.nil (hK3 _ _ ?_))
 refine CW.cond rfl (fun c11 => ?_) (fun c11 => ?_)
 ·
  refine CW.s1 (fun hK4 => CW.region ?_)
  refine LR.a1 ?_
  refine LR.a1 (LR.nil (hK4 _ _ ?_))
  refine CW.ret (hE2 .ret nofun _ _ (hret .ret (.inr rfl) _ _ _ (res2 rfl rfl rfl) ?_))
  have hE : D.readE p = 11 := by unfold Dk.readE; rw [if_pos c11]
  have hL : D.readL p = [] := by unfold Dk.readL; rw [if_neg (by rw [hE]; omega)]
  exact ⟨⟨none, 0, 0⟩, 0, by rw [hE]; rfl, by rw [hL]; exact Ow.nil fB_len fB_one, Nx.refl _ _, hm0⟩
 ·
  refine CW.skip (hK2 _ _ (CW.s1 (fun hK5 => CW.region ?_)))
  refine LR.m1 ?_
  refine LR.m1 ?_
  refine LR.call rfl c'168 rfl (Wd.u rfl) rfl rfl (find_ct mx_ K g b D p w0 _ mx (bf_mx.mono (by omega)) hf hl) (fun v15 H15 r15 => ?_)
  obtain ⟨rfl, hs15⟩ := r15
  replace hf := hf.nw hs15
  replace hm0 := hm0.tr hs15
  have hz1 := hs15.size
  refine LR.m1 ?_
  refine LR.v1 (Y.extract rfl rfl rfl) ?_
  refine LR.v1 (Y.extract rfl rfl rfl) ?_
  refine LR.a1 ?_
  refine LR.a1 (LR.nil (hK5 _ _ ?_))
  refine CW.s2 (fun hK6 hE6 => CW.s1 (fun hK7 => CW.region ?_))
  refine LR.m1 ?_
  refine LR.v1 (Y.neq rfl rfl rfl) (LR.nil (hK7 _ _ ?_))
  refine CW.condp rfl (fun c19 => ?_) (fun c19 => ?_)
  ·
   refine CW.s1 (fun hK8 => CW.region ?_)
   refine LR.m1 ?_
   refine LR.a1 ?_
   refine LR.a1 (LR.nil (hK8 _ _ ?_))
   refine CW.ret (hE6 .ret nofun _ _ (hret .ret (.inr rfl) _ _ _ (res2 rfl rfl rfl) ?_))
   have hE : D.readE p = D.look p := by unfold Dk.readE; rw [if_neg (by simpa using c11)]
   have hL : D.readL p = [] := by unfold Dk.readL; rw [if_neg (by rw [hE]; omega)]
   exact ⟨⟨none, 0, 0⟩, 0, by rw [hE]; rfl, by rw [hL]; exact Ow.nil fB_len fB_one, Nx.refl _ _, hm0⟩
  ·
   have hk0 : D.look p = 0 := by omega
   obtain ⟨i, hi⟩ : ∃ i, mget D.now p = some i := by
    cases hq : mget D.now p with
    | some i => exact ⟨i, rfl⟩
    | none => exfalso; unfold Dk.look at hk0; rw [hq] at hk0; by_cases hn : nameB p = true <;> simp [hn] at hk0
   obtain ⟨nv, sv, wv, kw, lw, hfi⟩ := hf.fil i (hf.ids.1 p i hi)
   refine CW.skip (hK6 _ _ (CW.s1 (fun hK9 => CW.region ?_)))
   refine LR.v1 (Y.cast (v2 := fvl g.fb i) (Y.move rfl rfl) (by rw [if_pos hk0, hi]; rfl)) ?_
   refine LR.v1 (Y.nilCheck rfl rfl) ?_
   refine LR.v1 (Y.FA hfi.vf.pt rfl u'186 rfl s'183) ?_
   refine LR.v1 (Y.FA (hfi.vf.pt.drop 0) rfl u'183 rfl s'57) ?_
   refine LR.v1 (Y.load1 ((hfi.vf.pt.drop 0).drop 0) rfl a'57 rfl) ?_
   refine LR.call rfl c'59 rfl (Wd.u rfl) rfl rfl (bclone_ct _ (fget D.fs i).now w0 _ hfi.hn.any (by have := hB i; omega)) (fun v26 H26 r26 => ?_)
   obtain ⟨s26, k26, rfl, ow26, hk26, hs26⟩ := r26
   have nx3 : Nx 0 H0.size k26 := Nx.tr (Nx.refl 0 _) hk26 hm0.size
   replace hm0 := hm0.tr hs26
   refine LR.a1 ?_
   refine LR.a1 (LR.nil (hK9 _ _ ?_))
   refine CW.ret (hret .ret (.inr rfl) _ _ _ (res2 rfl rfl rfl) ?_)
   have hE : D.readE p = 0 := by unfold Dk.readE; rw [if_neg (by simpa using c11)]; exact hk0
   have hL : D.readL p = (fget D.fs i).now := by unfold Dk.readL Dk.wasL; rw [if_pos hE, hi]
   exact ⟨s26, k26, by rw [hE]; rfl, by rw [hL]; exact ow26, nx3, hm0⟩
end Go.Proofs.YtfjmpninmdjcaaaGreatDoor.SimE

namespace Go.Proofs.YtfjmpninmdjcaaaGreatDoor.SimF
open E Go.RowKit SimA SimB SimC SimD SimE
set_option maxRecDepth 20000
def rst (ks dn : List Pth) (w : Pth → Nat) : Nat := ((ks.filter (fun k => !decide (k ∈ dn))).map w).sum
theorem rst_nil (ks : List Pth) (w : Pth → Nat) : rst ks [] w = (ks.map w).sum := by
 unfold rst; rw [List.filter_eq_self.2 (fun k _ => by simp)]
theorem rst_end {ks dn : List Pth} {w : Pth → Nat} (h : ∀ k ∈ ks, k ∈ dn) : rst ks dn w = 0 := by
 unfold rst; rw [List.filter_eq_nil_iff.2 (fun k hk => by simp [h k hk])]; rfl
theorem rst_step {w : Pth → Nat} {k : Pth} {dn : List Pth} (hd : k ∉ dn) : ∀ {ks : List Pth}, ks.Nodup → k ∈ ks → rst ks dn w = w k + rst ks (dn ++ [k]) w
 | [], _, h => by cases h
 | x :: ks, hn, h => by
   rw [List.nodup_cons] at hn
   unfold rst
   by_cases hx : x = k
   · subst hx
     have e : (x :: ks).filter (fun q => !decide (q ∈ dn ++ [x])) = ks.filter (fun q => !decide (q ∈ dn)) := by
      rw [List.filter_cons_of_neg (by simp)]
      refine List.filter_congr (fun q hq => ?_)
      have : q ≠ x := fun e => hn.1 (by rw [← e]; exact hq)
      simp [this]
     rw [e, List.filter_cons_of_pos (by simp [hd]), List.map_cons, List.sum_cons]
   · have hk : k ∈ ks := by
      rcases List.mem_cons.1 h with e | h
      · exact absurd e.symm hx
      · exact h
     have ih := rst_step (w := w) (dn := dn) hd hn.2 hk
     unfold rst at ih
     by_cases hxd : x ∈ dn
     · rw [List.filter_cons_of_neg (by simp [hxd]), List.filter_cons_of_neg (by simp [hxd])]; exact ih
     · rw [List.filter_cons_of_pos (by simp [hxd]), List.filter_cons_of_pos (by simp [hxd, hx]), List.map_cons, List.map_cons, List.sum_cons, List.sum_cons, ih]; omega
def dirS (D : Dk) (d : Pth) : Nat := usedL D.fs (D.now.filter (fun x => dirP x.1 = d))
theorem sum_if (ks : List Pth) (hn : ks.Nodup) (d : Pth) (a : Nat) : d ∈ ks → (ks.map (fun k => if d = k then a else 0)).sum = a := by
 induction ks with
 | nil => intro h; cases h
 | cons x ks ih =>
   intro h
   rw [List.nodup_cons] at hn
   rw [List.map_cons, List.sum_cons]
   by_cases hx : d = x
   · subst hx
     rw [if_pos rfl]
     have : (ks.map (fun k => if d = k then a else 0)).sum = 0 := by
      have : ks.map (fun k => if d = k then a else 0) = ks.map (fun _ => 0) := List.map_congr_left (fun k hk => if_neg (fun e => hn.1 (by rw [e]; exact hk)))
      rw [this]
      clear this ih hn h
      induction ks with
      | nil => rfl
      | cons x ks ih => rw [List.map_cons, List.sum_cons, ih]
     omega
   · rw [if_neg hx, ih hn.2 (by
      rcases List.mem_cons.1 h with e | h
      · exact absurd e hx
      · exact h)]; omega
theorem sum_add (ks : List Pth) (f g : Pth → Nat) : (ks.map (fun k => f k + g k)).sum = (ks.map f).sum + (ks.map g).sum := by
 induction ks with
 | nil => rfl
 | cons x ks ih => simp only [List.map_cons, List.sum_cons, ih]; omega
theorem dirS_all (fs : List Fdt) (ks : List Pth) (hn : ks.Nodup) : ∀ l : Nms, (∀ x ∈ l, dirP x.1 ∈ ks) → (ks.map (fun d => usedL fs (l.filter (fun x => dirP x.1 = d)))).sum = usedL fs l
 | [], _ => by
   have : ks.map (fun d => usedL fs (([] : Nms).filter (fun x => dirP x.1 = d))) = ks.map (fun _ => 0) := List.map_congr_left (fun k _ => rfl)
   rw [this]
   clear this hn
   rename_i hh
   clear hh
   induction ks with
   | nil => rfl
   | cons x ks ih => rw [List.map_cons, List.sum_cons, ih]; rfl
 | x :: l, h => by
   have ih := dirS_all fs ks hn l (fun y hy => h y (List.mem_cons_of_mem _ hy))
   have e : ks.map (fun d => usedL fs ((x :: l).filter (fun x => dirP x.1 = d))) = ks.map (fun d => (if dirP x.1 = d then (fget fs x.2).now.length else 0) + usedL fs (l.filter (fun x => dirP x.1 = d))) := by
    refine List.map_congr_left (fun k _ => ?_)
    by_cases hx : dirP x.1 = k
    · rw [List.filter_cons_of_pos (by simpa using hx), if_pos hx]; simp [usedL]
    · rw [List.filter_cons_of_neg (by simpa using hx), if_neg hx]; simp
   rw [e, sum_add, sum_if ks hn _ _ (h x List.mem_cons_self), ih]
   simp [usedL]
theorem names_sum {D : Dk} {nm : Nms} {d : Pth} (hA : Asc D.now) (hn : (nm.map (·.1)).Nodup) (he : ∀ q, mget nm q = if dirP q = d then mget D.now q else none) : ((nm.map (·.1)).map (fun q => (D.wasL q).length)).sum = dirS D d := by
 have hF : Asc (D.now.filter (fun x => decide (dirP x.1 = d))) := hA.filter _
 have hp : (nm.map (·.1)).Perm ((D.now.filter (fun x => decide (dirP x.1 = d))).map (·.1)) := (List.perm_ext_iff_of_nodup hn hF.nodup).2 (fun q => by
  rw [← isSome_iff_key, ← isSome_iff_key, he, mget_filter (f := fun p => decide (dirP p = d))]
  by_cases h : dirP q = d <;> simp [h])
 rw [(hp.map _).sum_nat]
 unfold dirS usedL
 rw [List.map_map]
 congr 1
 refine List.map_congr_left (fun x hx => ?_)
 have := mget_of_mem hA.nodup (show (x.1, x.2) ∈ D.now from (List.mem_filter.1 hx).1)
 simp only [Function.comp, Dk.wasL, this]
theorem used_all {K : List Nat} {g : Gh} {H : Heap} {b : Nat} {D : Dk} (hf : PDk K g H b D) (hA : Asc D.now) : ((g.dm.map (·.1)).map (dirS D)).sum = D.used :=
 dirS_all D.fs _ hf.hm.mo.nodup D.now (fun x hx => by
  have h1 := mget_of_mem hA.nodup (show (x.1, x.2) ∈ D.now from hx)
  rw [← isSome_iff_key]
  cases hq : mget g.dm (dirP x.1) with
  | some _ => rfl
  | none => rw [((hf.abs _ hq).1 x.1 rfl).1] at h1; cases h1)
theorem nodup_le {α : Type} [DecidableEq α] : ∀ {a b : List α}, a.Nodup → (∀ k ∈ a, k ∈ b) → a.length ≤ b.length
 | [], b, _, _ => Nat.zero_le _
 | x :: a, b, hn, hs => by
   rw [List.nodup_cons] at hn
   have h := nodup_le (b := b.erase x) hn.2 (fun k hk => (List.mem_erase_of_ne (fun e => hn.1 (by rw [← e]; exact hk))).2 (hs k (List.mem_cons_of_mem _ hk)))
   have hx := hs x List.mem_cons_self
   rw [List.length_erase_of_mem hx] at h
   have := List.length_pos_of_mem hx
   simp only [List.length_cons]; omega
set_option maxHeartbeats 2000000 in
theorem used_ct (K : List Nat) (g : Gh) (b : Nat) (D : Dk) (w0 : World) (H0 : Heap)
 (hf : PDk K g H0 b D) (hA : Asc D.now) (hU : D.used ≤ 4611686018427387904) :
 Ct Tryz.prog w0 226 #[ptr b] H0 (fun r H2 => r = .int .i64 (D.used : Int) ∧ Nw H0 H2) := by
 refine Ct.enter (args := [ptr b]) Tryz.func226 rfl rfl rfl ?_
 intro Q0 hret
 have hm0 : Nw H0 H0 := Mo.refl _ _
 have hbk_hf := hf.bk
 refine CW.s1 (fun hK1 => CW.region ?_)
 refine LR.a1 (LR.nil (hK1 _ _ ?_))
 refine CW.s1 (fun hK2 => CW.region ?_)
 refine LR.a1 (LR.nil (hK2 _ _ ?_))
 refine CW.s1 (fun hK3 => CW.s1 (fun hK4 => CW.region ?_))
 refine LR.m1 ?_
 refine LR.v1 (Y.nilCheck rfl rfl) ?_
 refine LR.v1 (Y.FA hf.vb.pt rfl u'102 rfl s'95) ?_
 refine LR.v1 (Y.load1 (hf.vb.pt.drop 2) rfl a'95 rfl) ?_
 have hmo := hf.hm
 have hlt_hmo := hmo.lt
 obtain ⟨es, ck, hmo⟩ := hmo.raw
 refine LR.z1 (Z.rangeA hmo rfl u'95 rfl) fun v12 H12 r12 => ?_
 obtain ⟨rfl, it, hs12, ob12, hH12⟩ := r12
 have hzs12 : H12.size = H0.size + 1 := by rw [hH12]; simp
 have dj1 : DL (H0.size + 1) K := DL.newK hf.bk
 have dj2 : Dj (g.mb + 1) (H0.size + 1) := Dj.new hmo.lt
 have nx3 : Nx 0 H0.size (H0.size + 1) := Nx.new hm0.size
 replace hf := hf.nw hs12
 replace hmo := hmo.nw hs12
 replace hm0 := hm0.tr hs12
 have hz1 := hs12.size
 have hlt_it := it.lt
 refine LR.nil (hK4 _ _ (CW.block (fun _ _ hX5 _ => ?_)))
 refine CW.loop (fun (s_ : (List Pth) × (Nat)) => match s_ with | (da, n) => [(3, .int .i64 (n : Int)), (12, .pointer (some ⟨H0.size, 0, none⟩))])
  (fun (s_ : (List Pth) × (Nat)) (H : Heap) => match s_ with | (da, n) => (Itr H H0.size g.mb Str es ck da) ∧ (da.Nodup ∧ ∀ k ∈ da, k ∈ g.dm.map (·.1)) ∧ (n + rst (g.dm.map (·.1)) da (dirS D) = D.used) ∧ Mo (Ms [(H0.size + 1)]) H12 H)
  (fun (s_ : (List Pth) × (Nat)) => match s_ with | (da, n) => g.dm.length - da.length) ([], 0) ⟨rfl, rfl, trivial⟩ ?_ ?_
 ·
  exact ⟨it, ⟨List.nodup_nil, by simp⟩, by rw [rst_nil, used_all hf hA]; omega, Mo.refl _ _⟩
 rintro ⟨da, n⟩ HL1 hI1 K6 hN6 hE6
 obtain ⟨it, hda, hsum, hlm1⟩ := hI1
 replace hf := hf.upL hlm1 (DKL.cons dj1 DKL.nil)
 replace hmo := hmo.upL hlm1 (DL.o dj2)
 replace hm0 := hm0.tq hlm1 (MIL.o (MI.q nx3))
 have hz2 := hlm1.size
 have nx_hlm1_it := Nx.refl (H0.size + 1) H12.size
 have hdl := nodup_le hda.1 hda.2
 rw [List.length_map] at hdl
 refine CW.s1 (fun hK7 => CW.region ?_)
 refine LR.z1 (Z.nextA it hmo keyStr.inj rfl rfl) fun v13 H13 r13 => ?_
 obtain ⟨qb, d, db, dn1, rfl, it, hT13, hF13, hs13⟩ := r13
 replace hs13 := hs13.md1
 replace hf := hf.upL hs13 (DKL.cons dj1 DKL.nil)
 replace hmo := hmo.upL hs13 (DL.o dj2)
 replace hm0 := hm0.tq hs13 (MIL.o (MI.q nx3))
 replace hlm1 := hlm1.trL hs13 (MIL.o (MI.r nx_hlm1_it))
 have hz3 := hs13.size
 refine LR.v1 (Y.ext0 rfl rfl) (LR.nil (hK7 _ _ ?_))
 refine CW.s2 (fun hK8 hE8 => ?_)
 refine CW.cond rfl (fun c14 => ?_) (fun c14 => ?_)
 ·
  obtain ⟨hxy, hnd, hdq⟩ := hT13 c14
  rw [hdq] at it
  have hdb := mget_of_mem hmo.mo.nodup hxy
  obtain ⟨nb, sb, kc, sv, nm, sm, hd⟩ := hf.dirs _ db hdb
  have hxd := hxy
  have hndd := hnd
  have hrs : rst (g.dm.map (·.1)) da (dirS D) = dirS D d + rst (g.dm.map (·.1)) (da ++ [d]) (dirS D) := rst_step (w := dirS D) hnd hmo.mo.nodup (List.mem_map.2 ⟨_, hxy, rfl⟩)
  refine CW.skip (hK8 _ _ (CW.block (fun _ hK9 _ _ => CW.s1 (fun hK10 => CW.region ?_))))
  refine LR.v1 (Y.entryA it hmo keyStr.inj hxy rfl rfl) ?_
  refine LR.v1 (Y.extract rfl rfl rfl) ?_
  refine LR.a1 (LR.nil (hK10 _ _ ?_))
  refine CW.s1 (fun hK11 => CW.region ?_)
  refine LR.m1 ?_
  refine LR.v1 (Y.nilCheck rfl rfl) ?_
  refine LR.v1 (Y.FA hd.vd.pt rfl u'173 rfl s'170) ?_
  refine LR.v1 (Y.FA (hd.vd.pt.drop 0) rfl u'170 rfl s'168) ?_
  refine LR.v1 (Y.load1 ((hd.vd.pt.drop 0).drop 0) rfl a'168 rfl) ?_
  have hmn := hd.hn
  have hlt_hmn := hmn.lt
  obtain ⟨es2, ck2, hmn⟩ := hmn.raw
  refine LR.z1 (Z.rangeA hmn rfl u'168 rfl) fun v22 H22 r22 => ?_
  obtain ⟨rfl, it2, hs22, ob22, hH22⟩ := r22
  have hzs22 : H22.size = H13.size + 1 := by rw [hH22]; simp
  have dj4 : DL (H13.size + 1) K := DL.newK hf.bk
  have dj6 : Dj (H0.size + 1) (H13.size + 1) := Dj.new it.lt
  have dj7 : Dj (nb + 1) (H13.size + 1) := Dj.new hmn.lt
  have nx9 : Nx 0 H12.size (H13.size + 1) := Nx.new hlm1.size
  replace hf := hf.nw hs22
  replace it := it.nw hs22
  replace hmn := hmn.nw hs22
  replace hlm1 := hlm1.trN hs22
  have hz4 := hs22.size
  have hlt_it2 := it2.lt
  refine LR.nil (hK11 _ _ (CW.block (fun _ _ hX12 _ => ?_)))
  refine CW.loop (fun (s_ : (List Pth) × (Nat)) => match s_ with | (dn, m) => [(3, .int .i64 (m : Int)), (12, .pointer (some ⟨H0.size, 0, none⟩)), (22, .pointer (some ⟨H13.size, 0, none⟩))])
   (fun (s_ : (List Pth) × (Nat)) (H : Heap) => match s_ with | (dn, m) => (Itr H H13.size nb Str es2 ck2 dn) ∧ (dn.Nodup ∧ ∀ k ∈ dn, k ∈ nm.map (·.1)) ∧ (m + rst (nm.map (·.1)) dn (fun q => (D.wasL q).length) + rst (g.dm.map (·.1)) (da ++ [d]) (dirS D) = D.used) ∧ Mo (Ms [(H13.size + 1)]) H22 H)
   (fun (s_ : (List Pth) × (Nat)) => match s_ with | (dn, m) => nm.length - dn.length) ([], n) ⟨rfl, rfl, rfl, trivial⟩ ?_ ?_
  ·
   exact ⟨it2, ⟨List.nodup_nil, by simp⟩, by rw [rst_nil, names_sum hA hmn.mo.nodup hd.en]; omega, Mo.refl _ _⟩
  rintro ⟨dn, m⟩ HL2 hI2 K13 hN13 hE13
  obtain ⟨it2, hdn, hsum2, hlm2⟩ := hI2
  replace hf := hf.upL hlm2 (DKL.cons dj4 DKL.nil)
  replace it := it.upL hlm2 (DL.o dj6)
  replace hmn := hmn.upL hlm2 (DL.o dj7)
  replace hlm1 := hlm1.trL hlm2 (MIL.o (MI.q nx9))
  have hz5 := hlm2.size
  have nx_hlm2_it2 := Nx.refl (H13.size + 1) H22.size
  have hdl := nodup_le hdn.1 hdn.2
  rw [List.length_map] at hdl
  refine CW.s1 (fun hK14 => CW.region ?_)
  refine LR.z1 (Z.nextA it2 hmn keyStr.inj rfl rfl) fun v23 H23 r23 => ?_
  obtain ⟨qc, q, i, dn2, rfl, it2, hT23, hF23, hs23⟩ := r23
  replace hs23 := hs23.md1
  replace hf := hf.upL hs23 (DKL.cons dj4 DKL.nil)
  replace it := it.upL hs23 (DL.o dj6)
  replace hmn := hmn.upL hs23 (DL.o dj7)
  replace hlm1 := hlm1.trL hs23 (MIL.o (MI.q nx9))
  replace hlm2 := hlm2.trL hs23 (MIL.o (MI.r nx_hlm2_it2))
  have hz6 := hs23.size
  refine LR.v1 (Y.ext0 rfl rfl) (LR.nil (hK14 _ _ ?_))
  refine CW.s2 (fun hK15 hE15 => ?_)
  refine CW.cond rfl (fun c24 => ?_) (fun c24 => ?_)
  ·
   obtain ⟨hxy, hnd, hdq⟩ := hT23 c24
   rw [hdq] at it2
   have hqi := mget_of_mem hmn.mo.nodup hxy
   rw [hd.en] at hqi
   have hqi : mget D.now q = some i := by
    split at hqi
    · exact hqi
    · cases hqi
   obtain ⟨nv, sv2, wv, kw, lw, hfi⟩ := hf.fil i (hf.ids.1 q i hqi)
   have hrs2 : rst (nm.map (·.1)) dn (fun q => (D.wasL q).length) = (D.wasL q).length + rst (nm.map (·.1)) (dn ++ [q]) (fun q => (D.wasL q).length) := rst_step (w := fun q => (D.wasL q).length) hnd hmn.mo.nodup (List.mem_map.2 ⟨_, hxy, rfl⟩)
   have hwl : D.wasL q = (fget D.fs i).now := by unfold Dk.wasL; rw [hqi]
   refine CW.skip (hK15 _ _ (CW.block (fun _ hK16 _ _ => CW.s1 (fun hK17 => CW.region ?_))))
   refine LR.v1 (Y.entryA it2 hmn keyStr.inj hxy rfl rfl) ?_
   refine LR.v1 (Y.extract rfl rfl rfl) ?_
   refine LR.a1 (LR.nil (hK17 _ _ ?_))
   refine CW.region ?_
   refine LR.m1 ?_
   refine LR.m1 ?_
   refine LR.v1 (Y.nilCheck rfl rfl) ?_
   refine LR.v1 (Y.FA hfi.vf.pt rfl u'186 rfl s'183) ?_
   refine LR.v1 (Y.FA (hfi.vf.pt.drop 0) rfl u'183 rfl s'57) ?_
   refine LR.v1 (Y.load1 ((hfi.vf.pt.drop 0).drop 0) rfl a'57 rfl) ?_
   refine LR.v1 (Y.len hfi.hn rfl u'57 rfl) ?_
   refine LR.v1 (Y.cast (v2 := .int .i64 ((m + (D.wasL q).length : Nat) : Int)) (Y.addi rfl rfl rfl (by rw [hwl] at hrs2; omega)) (ivv (by rw [hwl]; omega))) ?_
   refine LR.a1 (LR.nil (hK16 _ _ ?_))
   have hdn2 : (dn ++ [q]).Nodup ∧ ∀ k ∈ dn ++ [q], k ∈ nm.map (·.1) := by
    refine ⟨?_, fun k hk => ?_⟩
    · rw [List.nodup_append]
      exact ⟨hdn.1, by simp, fun a ha b hb e => by simp only [List.mem_singleton] at hb; subst hb; subst e; exact hnd ha⟩
    · rcases List.mem_append.1 hk with h | h
      · exact hdn.2 k h
      · rw [List.mem_singleton.1 h]; exact List.mem_map.2 ⟨_, hxy, rfl⟩
   have hdl2 := nodup_le hdn2.1 hdn2.2
   rw [List.length_append, List.length_singleton, List.length_map] at hdl2
   refine QN.sub (hN13 (dn ++ [q], m + (D.wasL q).length) _ ?_ ?_) ⟨(iv (by omega)), rfl, rfl, trivial⟩
   · exact ⟨it2, hdn2, by rw [hrs2, ← Nat.add_assoc] at hsum2; exact hsum2, hlm2⟩
   · simp only [List.length_append, List.length_singleton]; omega
  ·
   obtain ⟨hall, _⟩ := hF23 c24
   have hre : rst (nm.map (·.1)) dn (fun q => (D.wasL q).length) = 0 := rst_end (fun k hk => by obtain ⟨p, hp, rfl⟩ := List.mem_map.1 hk; exact hall p hp)
   refine CW.exit (hE15 (.exit 2) nofun _ _ (hE13 (.exit 2) nofun _ _ (hX12 _ _ ?_)))
   refine hK9 _ _ ?_
   have hda2 : (da ++ [d]).Nodup ∧ ∀ k ∈ da ++ [d], k ∈ g.dm.map (·.1) := by
    refine ⟨?_, fun k hk => ?_⟩
    · rw [List.nodup_append]
      exact ⟨hda.1, by simp, fun a ha b hb e => by simp only [List.mem_singleton] at hb; subst hb; subst e; exact hndd ha⟩
    · rcases List.mem_append.1 hk with h | h
      · exact hda.2 k h
      · rw [List.mem_singleton.1 h]; exact List.mem_map.2 ⟨_, hxd, rfl⟩
   have hdl2 := nodup_le hda2.1 hda2.2
   rw [List.length_append, List.length_singleton, List.length_map] at hdl2
   refine QN.sub (hN6 (da ++ [d], m) _ ?_ ?_) ⟨(iv (by omega)), rfl, trivial⟩
   · exact ⟨it, hda2, by rw [hre, Nat.add_zero] at hsum2; exact hsum2, hlm1⟩
   · simp only [List.length_append, List.length_singleton]; omega
 ·
  obtain ⟨hall, _⟩ := hF13 c14
  have hre : rst (g.dm.map (·.1)) da (dirS D) = 0 := rst_end (fun k hk => by obtain ⟨p, hp, rfl⟩ := List.mem_map.1 hk; exact hall p hp)
  refine CW.exit (hE8 (.exit 0) nofun _ _ (hE6 (.exit 0) nofun _ _ (hX5 _ _ ?_)))
  refine hK3 _ _ (CW.s1 (fun hK18 => CW.region ?_))
  refine LR.m1 ?_
  refine LR.a1 (LR.nil (hK18 _ _ ?_))
  refine CW.ret (hret .ret (.inr rfl) _ _ _ (res1 rfl rfl) ?_)
  exact ⟨by rw [show n = D.used by omega], hm0⟩
end Go.Proofs.YtfjmpninmdjcaaaGreatDoor.SimF

namespace Go.Proofs.YtfjmpninmdjcaaaGreatDoor.SimG
open E Go.RowKit SimA SimB SimC SimD SimE SimF
set_option maxRecDepth 20000
set_option maxRecDepth 100000 in
theorem inf171 : Inf Tryz.prog 171 177 3 40 := ⟨Tryz.underlying171, _, _, rfl, rfl, rfl, rfl, rfl⟩
theorem mkdir_ct (K : List Nat) (g : Gh) (b : Nat) (D : Dk) (p : Pth) (w0 : World) (H0 : Heap)
 (hf : PDk K g H0 b D) (hdl : g.dm.length + 1 ≤ D.ops) :
 Ct Tryz.prog w0 222 #[ptr b, Str p] H0 (fun r H2 => ∃ K2 : List Nat, ∃ g2 : Gh, ∃ db : Nat, r = ptr db ∧ (PDk K2 g2 H2 b D) ∧ (NxK K H0.size K2) ∧ (mget g2.dm p = some db) ∧ (g2.fb = g.fb) ∧ Mo (Ms K) H0 H2) := by
 refine Ct.enter (args := [ptr b, Str p]) Tryz.func222 rfl rfl rfl ?_
 intro Q0 hret
 have hm0 : Mo (Ms K) H0 H0 := Mo.refl _ _
 have nx_hm0_hf := NxK.refl K H0.size
 have hbk_hf := hf.bk
 refine CW.s1 (fun hK1 => CW.region ?_)
 refine LR.a1 (LR.nil (hK1 _ _ ?_))
 refine CW.seq (fun K2 hK2 _ => CW.region ?_)
 refine LR.m1 ?_
 refine LR.v1 (Y.nilCheck rfl rfl) ?_
 refine LR.v1 (Y.FA hf.vb.pt rfl u'102 rfl s'95) ?_
 refine LR.v1 (Y.load1 (hf.vb.pt.drop 2) rfl a'95 rfl) ?_
 refine LR.m1 ?_
 refine LR.v1 (look_p adO hf.hm.mo (fun _ => rfl) keyStr rfl u'95 Tryz.underlying9 z'166 rfl rfl) ?_
 refine LR.a1 (LR.nil (hK2 _ _ ?_))
 refine CW.s1 (fun hK3 => CW.s1 (fun hK4 => CW.region ?_))
 refine LR.m1 ?_
 refine LR.v1 (Y.peq rfl (by kernel_rfl) (by kernel_rfl) rfl rfl) (LR.nil (hK4 _ _ ?_))
 refine CW.cond rfl (fun c13 => ?_) (fun c13 => ?_)
 ·
  have hnd : mget g.dm p = none := by
   cases hq : mget g.dm p with
   | none => rfl
   | some db => rw [hq] at c13; cases c13
  refine CW.s1 (fun hK5 => CW.region ?_)
  refine LR.z1 (Z.makeMp Str (fvl g.fb) rfl) fun v14 H14 r14 => ?_
  obtain ⟨rfl, hn, hs14, ob14, hH14⟩ := r14
  have hzs14 : H14.size = H0.size + 1 := by rw [hH14]; simp
  have dj1 : DL (H0.size + 1) K := DL.newK hf.bk
  have nx2 : Nx 0 H0.size (H0.size + 1) := Nx.new hm0.size
  replace hf := hf.nw hs14
  replace hm0 := hm0.trN hs14
  have hz1 := hs14.size
  have hlt_hn := hn.lt
  refine LR.z1 (Z.makeMp Str (fvl g.fb) rfl) fun v15 H15 r15 => ?_
  obtain ⟨rfl, hs, hs15, ob15, hH15⟩ := r15
  have hzs15 : H15.size = H14.size + 1 := by rw [hH15]; simp
  have dj3 : DL (H14.size + 1) K := DL.newK hf.bk
  have nx5 : Nx 0 H0.size (H14.size + 1) := Nx.new hm0.size
  replace hf := hf.nw hs15
  replace hn := hn.nw hs15
  replace hm0 := hm0.trN hs15
  have hz2 := hs15.size
  have hlt_hs := hs.lt
  refine LR.v1 (Y.build (v := .agg #[.map (some H0.size), .map (some H14.size)]) rfl rfl (by intro w; kernel_rfl)) ?_
  refine LR.v1 (Y.build (v := .agg #[.map (some H0.size), .map (some H14.size), .slice none 0 0]) rfl rfl (by intro w; kernel_rfl)) ?_
  refine LR.z1 (Z.boxv rfl rfl) fun v18 H18 r18 => ?_
  obtain ⟨rfl, hvd, hs18, ob18, hH18⟩ := r18
  have hzs18 : H18.size = H15.size + 1 := by rw [hH18]; simp
  have dj6 : DL (H15.size + 1) K := DL.newK hf.bk
  have nx9 : Nx 0 H0.size (H15.size + 1) := Nx.new hm0.size
  replace hf := hf.nw hs18
  replace hn := hn.nw hs18
  replace hs := hs.nw hs18
  replace hm0 := hm0.trN hs18
  have hz3 := hs18.size
  replace hvd : Var 173 H18 H15.size ([.map (some H0.size), .map (some H14.size), .slice none 0 0]) := hvd
  refine LR.a1 (LR.nil (hK5 _ _ ?_))
  refine CW.region ?_
  refine LR.m1 ?_
  refine LR.v1 (Y.nilCheck rfl rfl) ?_
  refine LR.v1 (Y.FA hf.vb.pt rfl u'102 rfl s'95) ?_
  refine LR.v1 (Y.load1 (hf.vb.pt.drop 2) rfl a'95 rfl) ?_
  refine LR.m1 ?_
  refine LR.m1 ?_
  refine LR.s1 (S.putMp H15.size hf.hm keyStr rfl u'95 Tryz.underlying9 rfl rfl rfl) fun H4_6 r4_6 => ?_
  obtain ⟨hmp, hw4_6⟩ := r4_6
  have hs4_6 := hf.ms hw4_6 (fun c e => by rw [e, hf.rm]; simp)
  replace hm0 := hm0.trL hs4_6 (MIL.ofK (nx_hm0_hf) (by intro k hk; simp [hk]))
  have hz4 := hs4_6.size
  have nx12 := NxK.cons (nx2) (nx_hm0_hf)
  have nx14 := NxK.cons (nx5) (nx12)
  have nx15 := NxK.cons (nx9) (nx14)
  replace hf := hf.newDir hnd hvd hn hs (dj6) (dj1) (dj3) (by omega) (by omega) (by omega) hw4_6.md1 hmp hdl
  refine LR.nil (hK3 _ _ (CW.s1 (fun hK6 => CW.region ?_)))
  refine LR.m1 ?_
  refine LR.a1 (LR.nil (hK6 _ _ ?_))
  refine CW.ret (hret .ret (.inr rfl) _ _ _ (res1 rfl rfl) ?_)
  exact ⟨_, _, _, rfl, hf, nx15, by show mget (mput g.dm p _) p = _; rw [mget_put, if_pos rfl], rfl, hm0⟩
 ·
  obtain ⟨db, hdb⟩ : ∃ db, mget g.dm p = some db := by
   cases hq : mget g.dm p with
   | none => rw [hq] at c13; cases c13
   | some db => exact ⟨db, rfl⟩
  refine CW.skip (hK3 _ _ (CW.s1 (fun hK7 => CW.region ?_)))
  refine LR.m1 ?_
  refine LR.a1 (LR.nil (hK7 _ _ ?_))
  refine CW.ret (hret .ret (.inr rfl) _ _ _ (res1 rfl rfl) ?_)
  exact ⟨K, g, db, by rw [hdb]; rfl, hf, nx_hm0_hf, hdb, rfl, hm0⟩
set_option maxHeartbeats 2000000 in
theorem change_ct (K : List Nat) (g : Gh) (b : Nat) (D : Dk) (p : Pth) (c : Chg) (w0 : World) (H0 : Heap)
 (hf : PDk K g H0 b D) (hdl : g.dm.length + 1 ≤ D.ops) (hcd : c.dir = p) (hcn : ∀ i, c.f = some i → dirP c.n = p ∧ i < D.fs.length) (hcg : c.g ≠ [] → dirP c.g = p) (hll : D.log.length ≤ 1099511627776) :
 Ct Tryz.prog w0 221 #[ptr b, Str p, .agg (fC g.fb c).toArray] H0 (fun r H2 => ∃ K2 : List Nat, ∃ g2 : Gh, r = .tuple #[] ∧ (PDk K2 g2 H2 b (D.change c)) ∧ (NxK K H0.size K2) ∧ (g2.fb = g.fb) ∧ Mo (Ms K) H0 H2) := by
 refine Ct.enter (args := [ptr b, Str p, .agg (fC g.fb c).toArray]) Tryz.func221 rfl rfl rfl ?_
 intro Q0 hret
 have hm0 : Mo (Ms K) H0 H0 := Mo.refl _ _
 have nx_hm0_hf := NxK.refl K H0.size
 have hbk_hf := hf.bk
 refine CW.s1 (fun hK1 => CW.region ?_)
 refine LR.z1 (Z.boxv rfl rfl) fun v5 H5 r5 => ?_
 obtain ⟨rfl, vc, hs5, ob5, hH5⟩ := r5
 have hzs5 : H5.size = H0.size + 1 := by rw [hH5]; simp
 have dj1 : DL (H0.size + 1) K := DL.newK hf.bk
 replace hf := hf.nw hs5
 replace hm0 := hm0.trN hs5
 have hz1 := hs5.size
 replace vc : Var 177 H5 H0.size (fC g.fb c) := vc
 refine LR.nil (hK1 _ _ (CW.seq (fun K2 hK2 _ => CW.region ?_)))
 refine LR.m1 ?_
 refine LR.m1 ?_
 refine LR.call rfl c'222 rfl (Wd.u rfl) rfl rfl (mkdir_ct K g b D p w0 _ hf hdl) (fun v9 H9 r9 => ?_)
 have ql4 := vc.lt
 obtain ⟨K9, g9, db, rfl, hf, hkd9, hdb, hg9, hs9⟩ := r9
 have dj5 : DL (H0.size + 1) K9 := DL.appK (dj1) ql4 hkd9
 have nx6 : NxK K H0.size K9 := NxK.tr (nx_hm0_hf) hkd9 hm0.size
 replace vc := vc.upL hs9 (dj1)
 replace hm0 := hm0.trL hs9 (MIL.ofK (nx_hm0_hf) (by intro k hk; simp [hk]))
 have hz2 := hs9.size
 have hbk_hf := hf.bk
 rw [← hg9] at vc
 refine LR.a1 (LR.nil (hK2 _ _ ?_))
 refine CW.s1 (fun hK3 => ?_)
 obtain ⟨nbA, sbA, kcA, svA, nmA, smA, hdA⟩ := hf.dirs _ db hdb
 refine CW.region_tail 6 rfl (by kernel_rfl) (fun T2 hT2 => ?_)
 refine LR.m1 ?_
 refine LR.v1 (Y.nilCheck rfl rfl) ?_
 refine LR.v1 (Y.FA hdA.vd.pt rfl u'173 rfl s'170) ?_
 refine LR.v1 (Y.FA (hdA.vd.pt.drop 0) rfl u'170 rfl s'168) ?_
 refine LR.v1 (Y.load1 ((hdA.vd.pt.drop 0).drop 0) rfl a'168 rfl) ?_
 refine LR.v1 (Y.loadN vc.pt rfl a'177 s'177 (rfl) rfl) ?_
 refine LR.nil (hT2 _ ?_)
 refine LR.call rfl c'78 rfl (Wd.u rfl) rfl rfl ((put_ct g9.fb nbA nmA c w0 _ hdA.hn).mono (fun r H2 h => hf.put hdb hdA h.2 h.1 (mget_apM c nmA) (fun i hi => ⟨(hcn i hi).1, (hcn i hi).2⟩) hcg)) (fun v16 H16 r16 => ?_)
 obtain ⟨hf, hs16⟩ := r16
 replace vc := vc.upL hs16 (dj5)
 replace hm0 := hm0.trL hs16 (MIL.ofK (nx6) (by intro k hk; simp [hk]))
 have hz3 := hs16.size
 have hbk_hf := hf.bk
 refine LR.nil (hK3 _ _ ?_)
 obtain ⟨nbB, sbB, kcB, svB, nmB, smB, hdB⟩ := hf.dirs _ db hdb
 have hll2 : (D.chgs p).length ≤ D.log.length := List.length_filter_le _ _
 have hop : Mo (Ms [(db + 1), kcB]) H16 H16 := Mo.refl _ _
 have km7 : KM K9 (db + 1) := (hf.km1 hdB.rd (by simp))
 have vd := hdB.vd
 have hlt_vd := vd.lt
 have nx9 : MI K H0.size (db + 1) := MIL.at (MIL.ofK (nx6) (by intro k hk; simp [hk])) km7
 have nx10 := Nx.refl (db + 1) H16.size
 have km11 : KM K9 kcB := (hf.km hdB.rc (by simp))
 have hc := (show Ow kcB 177 _ (fC g9.fb) 3 svB.v (D.chgs p) from hdB.hc)
 have hle_hc := hc.le
 have dj12 : Dj (H0.size + 1) kcB := DL.at (dj5) km11
 have nx13 : MI K H0.size kcB := MIL.at (MIL.ofK (nx6) (by intro k hk; simp [hk])) km11
 have nx14 := Nx.refl kcB H16.size
 have dj15 : Dj (db + 1) kcB := fun x h1 h2 => by have h3 := hdB.rc x h2; rw [show x = db by omega, hdB.rd] at h3; cases h3
 refine CW.region_any (fun Hq => Mo (Ms [kcB]) H16 Hq) [8, 9, 10] rfl ?_
 have hq3 : Mo (Ms [kcB]) H16 H16 := Mo.refl _ _
 have nx16 := Nx.refl kcB H16.size
 refine LH.m1 0 rfl hq3 ?_
 refine LH.m1 1 rfl hq3 ?_
 refine LH.t1 2 rfl (fun Hq hq => Y.nilCheck rfl rfl) hq3 ?_
 refine LH.t1 3 rfl (fun Hq hq => Y.fieldAddr (vd.upL hq (DL.o dj15)).pt rfl u'173 rfl rfl s'171 (by decide) rfl) hq3 ?_
 refine LH.t1 4 rfl (fun Hq hq => Y.load1 ((vd.upL hq (DL.o dj15)).pt.drop 2) rfl a'171 rfl) hq3 ?_
 refine LH.t1 5 rfl (fun Hq hq => Y.loadN (vc.upL hq (DL.o dj12)).pt rfl a'177 s'177 (rfl) rfl) hq3 ?_
 refine LH.o1 6 ?_
 refine LO.z rfl (Z.litw _ ([c]) rfl inf171 rfl rfl rfl (by decide) (by decide) (fC_len _) (fC_one _) (rfl)) (Wd.u rfl) rfl rfl (fun v23 H23 r23 => ?_)
 obtain ⟨ow23, hs23, ob23, hH23⟩ := r23
 have hzs23 : H23.size = H16.size + 1 := by rw [hH23]; simp
 have nx22 : Nx 0 H16.size (H16.size + 1) := Nx.new hq3.size
 replace vd := vd.nw hs23
 replace hc := hc.nw hs23
 replace hm0 := hm0.trN hs23
 replace hop := hop.trN hs23
 replace hq3 := hq3.trN hs23
 have hz4 := hs23.size
 refine ⟨.inr hq3, LH.narrow (SH2 := fun Hq => Mo (Ms [kcB, (H16.size + 1)]) H23 Hq) (fun Hq hq => hq3.trL hq (MIL.cons (MI.r nx16) (MIL.o (MI.q nx22)))) ?_⟩
 have hq3 : Mo (Ms [kcB, (H16.size + 1)]) H23 H23 := Mo.refl _ _
 have nx23 := Nx.refl kcB H23.size
 have nx24 := Nx.refl (H16.size + 1) H23.size
 refine LH.o1 7 ?_
 refine LO.z rfl (Z.apnd hc ow23.rd rfl inf171 rfl rfl (by first | omega | (simp; omega)) (by first | omega | (simp; omega))) (Wd.u rfl) rfl rfl (fun v24 H24 r24 => ?_)
 obtain ⟨kc2, hc, hk24, hs24⟩ := r24
 replace hk24 : Nx kcB H23.size kc2 := hk24
 replace hs24 := hs24.md
 have dj26 : Dj (db + 1) kc2 := Dj.app (dj15) vd.lt hk24
 have nx29 : Nx kcB H16.size kc2 := Nx.tr (nx14) hk24 hop.size
 have nx30 : Nx kcB H23.size kc2 := Nx.tr (nx23) hk24 hq3.size
 replace vd := vd.upL hs24 (DL.o dj15)
 replace hm0 := hm0.trL hs24 (MIL.cons (nx13) MIL.nil)
 replace hop := hop.trL hs24 (MIL.o (MI.r nx14))
 replace hq3 := hq3.trL hs24 (MIL.o (MI.r nx23))
 have hz5 := hs24.size
 have hle_hc := hc.le
 refine ⟨.inr hq3, LH.narrow (SH2 := fun Hq => Mo (Ms [kc2, (H16.size + 1)]) H24 Hq) (fun Hq hq => hq3.trL hq (MIL.cons (MI.r nx30) (MIL.o (MI.r nx24)))) ?_⟩
 refine LH.o1 8 ?_
 refine LO.v rfl (Y.nilCheck rfl rfl) (Wd.u rfl) rfl rfl (.inl rfl) ?_
 refine LH.o1 9 ?_
 refine LO.v rfl (Y.FA vd.pt rfl u'173 rfl s'171) (Wd.u rfl) rfl rfl (.inl rfl) ?_
 refine LH.o1 10 ?_
 refine LO.s rfl (S.var1 vd 2 ([.map (some nbB), .map (some sbB), v24]) rfl rfl rfl (hc.rd.oneCell) s'171 (by simp) (rfl)) (Wd.u rfl) rfl (fun H3_10 r3_10 => ?_)
 obtain ⟨vd, hs3_10⟩ := r3_10
 replace hs3_10 := hs3_10.md1
 replace hc := hc.upL hs3_10 (DL.o dj26.symm)
 replace hm0 := hm0.trL hs3_10 (MIL.cons (nx9) MIL.nil)
 replace hop := hop.trL hs3_10 (MIL.o (MI.r nx10))
 have hz6 := hs3_10.size
 refine ⟨.inl rfl, ?_⟩
 refine LH.done (by kernel_rfl) ?_
 obtain ⟨sv2, rfl⟩ : ∃ s : SV, v24 = s.v := ⟨toSV v24, hc.sv.symm⟩
 have nx34 : NxK K H0.size (kc2 :: K9) := (NxK.app (nx6) (km11) (nx29) (by omega))
 replace hf := hf.note hdb hdB hop vd hc (nx29) hcd (fun i hi => (hcn i hi).2)
 refine hret .normal (.inl rfl) _ _ _ (res0 rfl) ?_
 exact ⟨_, _, rfl, hf, nx34, hg9, hm0⟩
end Go.Proofs.YtfjmpninmdjcaaaGreatDoor.SimG

namespace Go.Proofs.YtfjmpninmdjcaaaGreatDoor.SimH
open E Go.RowKit SimA SimB SimC SimD SimE SimF SimG
set_option maxRecDepth 20000
set_option maxRecDepth 100000 in
theorem inf184 : Inf Tryz.prog 184 275 2 32 := ⟨Tryz.underlying184, _, _, rfl, rfl, rfl, rfl, rfl⟩
structure Bd (n : Nat) (D : Dk) : Prop where
 an : Asc D.now
 ast : Asc D.stays
 us : D.used ≤ 2305843009213693952
 lg : D.log.length ≤ n
 op : D.ops ≤ n
 nw : ∀ i, (fget D.fs i).now.length ≤ n
 sy : ∀ i, (fget D.fs i).stays.length ≤ n
 w : ∀ i, (fget D.fs i).w.length ≤ n
 wd : ∀ i, ∀ y ∈ (fget D.fs i).w, y.d.length ≤ n
 nl : D.now.length ≤ n
 sl : D.stays.length ≤ n
 fl : D.fs.length ≤ n
 pf : ∀ i j, (onAll ((fget D.fs i).w.take j) (fget D.fs i).stays).length ≤ n
 ld : ∀ c ∈ D.log, ∀ i, c.f = some i → dirP c.n = c.dir
theorem begin_same (D : Dk) : D.begin.2.cap = D.cap ∧ D.begin.2.most = D.most ∧ D.begin.2.fs = D.fs ∧ D.begin.2.now = D.now ∧ D.begin.2.stays = D.stays ∧ D.begin.2.log = D.log ∧ D.begin.2.ops ≤ D.ops + 1 := by
 unfold Dk.begin
 split
 · exact ⟨rfl, rfl, rfl, rfl, rfl, rfl, Nat.le_succ _⟩
 · split
   · exact ⟨rfl, rfl, rfl, rfl, rfl, rfl, Nat.le_succ _⟩
   · exact ⟨rfl, rfl, rfl, rfl, rfl, rfl, Nat.le_refl _⟩
theorem begin_true {D : Dk} (h : D.begin.1 = true) : D.begin.2.ops = D.ops + 1 ∧ D.begin.2.dead = false := by
 unfold Dk.begin at h ⊢
 split at h
 · cases h
 · rename_i h1
   split at h
   · cases h
   · rename_i h2
     rw [if_neg h1, if_neg h2]
     exact ⟨rfl, by simpa using h1⟩
theorem Bd.mono {n m : Nat} {D : Dk} (h : Bd n D) (hm : n ≤ m) : Bd m D := ⟨h.an, h.ast, h.us, Nat.le_trans h.lg hm, Nat.le_trans h.op hm, fun i => Nat.le_trans (h.nw i) hm, fun i => Nat.le_trans (h.sy i) hm, fun i => Nat.le_trans (h.w i) hm, fun i y hy => Nat.le_trans (h.wd i y hy) hm, Nat.le_trans h.nl hm, Nat.le_trans h.sl hm, Nat.le_trans h.fl hm, fun i j => Nat.le_trans (h.pf i j) hm, h.ld⟩
theorem Bd.begin {n : Nat} {D : Dk} (h : Bd n D) : Bd (n + 1) D.begin.2 := by
 obtain ⟨e1, e2, e3, e4, e5, e6, e7⟩ := begin_same D
 have h := h.mono (Nat.le_succ n)
 exact ⟨by rw [e4]; exact h.an, by rw [e5]; exact h.ast, by unfold Dk.used; rw [e3, e4]; exact h.us, by rw [e6]; exact h.lg, by have := Bd.op ‹Bd n D›; omega, by rw [e3]; exact h.nw, by rw [e3]; exact h.sy, by rw [e3]; exact h.w, by rw [e3]; exact h.wd, by rw [e4]; exact h.nl, by rw [e5]; exact h.sl, by rw [e3]; exact h.fl, by rw [e3]; exact h.pf, by rw [e6]; exact h.ld⟩
theorem look_0 {D : Dk} {p : Pth} (h : D.look p = 0) : nameB p = true ∧ ∃ i, mget D.now p = some i := by
 unfold Dk.look at h
 cases hn : nameB p with
 | false => rw [hn] at h; simp at h
 | true =>
   rw [hn] at h
   cases hq : mget D.now p with
   | none => rw [hq] at h; simp at h
   | some i => exact ⟨rfl, i, rfl⟩
theorem look_2 {D : Dk} {p : Pth} (h : D.look p = 2) : nameB p = true ∧ mget D.now p = none := by
 unfold Dk.look at h
 cases hn : nameB p with
 | false => rw [hn] at h; simp at h
 | true =>
   rw [hn] at h
   cases hq : mget D.now p with
   | none => exact ⟨rfl, rfl⟩
   | some i => rw [hq] at h; simp at h
theorem look_7 {D : Dk} {p : Pth} (h : D.look p = 7) : nameB p = false := by
 unfold Dk.look at h
 cases hn : nameB p with
 | false => rfl
 | true =>
   rw [hn] at h
   cases hq : mget D.now p with
   | none => rw [hq] at h; simp at h
   | some i => rw [hq] at h; simp at h
theorem look_or (D : Dk) (p : Pth) : D.look p = 0 ∨ D.look p = 2 ∨ D.look p = 7 := by
 unfold Dk.look
 split
 · split
   · exact .inl rfl
   · exact .inr (.inl rfl)
 · exact .inr (.inr rfl)
theorem on_len (w : Wr) (b : List UInt8) : (w.on b w.d.length).length = (if w.b = true then b.length else 0) + w.d.length := by
 unfold Wr.on; rw [List.length_append, List.length_take, Nat.min_self]; split <;> rfl
theorem fget_put {D : Dk} {i : Nat} {x : Fdt} (h : i < D.fs.length) : fget (D.putF i x).fs i = x := by simp [fget, Dk.putF, List.getD, h]
theorem fl_put {D : Dk} {i : Nat} {x : Fdt} : (D.putF i x).fs.length = D.fs.length := by simp [Dk.putF]
theorem put_put {D : Dk} {i : Nat} {x y : Fdt} : (D.putF i x).putF i y = D.putF i y := by simp [Dk.putF]
theorem lay_dead {D : Dk} {p : Pth} {w : Wr} (h : D.begin.1 = false) : D.lay p w = (11, D.begin.2) := by unfold Dk.lay; simp [h]
theorem lay_go {D : Dk} {p : Pth} {w : Wr} (h : D.begin.1 = true) : D.lay p w = (D.begin.2.layE p w, if D.begin.2.layE p w = 0 then D.begin.2.write p w else D.begin.2) := by unfold Dk.lay; simp [h]
theorem layE_7 {D : Dk} {p : Pth} {w : Wr} (h : nameB p = false) : D.layE p w = 7 := by unfold Dk.layE; rw [if_pos h]
theorem layE_5 {D : Dk} {p : Pth} {w : Wr} (h : nameB p = true) (h2 : D.most < (w.on (D.wasL p) w.d.length).length) : D.layE p w = 5 := by unfold Dk.layE; rw [if_neg (by simp [h]), if_pos h2]
theorem layE_12 {D : Dk} {p : Pth} {w : Wr} (h : nameB p = true) (h2 : ¬ D.most < (w.on (D.wasL p) w.d.length).length) (h3 : D.cap + (D.wasL p).length < D.used + (w.on (D.wasL p) w.d.length).length) : D.layE p w = 12 := by unfold Dk.layE; rw [if_neg (by simp [h]), if_neg h2, if_pos h3]
theorem layE_0 {D : Dk} {p : Pth} {w : Wr} (h : nameB p = true) (h2 : ¬ D.most < (w.on (D.wasL p) w.d.length).length) (h3 : ¬ D.cap + (D.wasL p).length < D.used + (w.on (D.wasL p) w.d.length).length) : D.layE p w = 0 := by unfold Dk.layE; rw [if_neg (by simp [h]), if_neg h2, if_neg h3]
theorem was_some {D : Dk} {p : Pth} {i : Nat} (h : mget D.now p = some i) : D.wasL p = (fget D.fs i).now := by unfold Dk.wasL; rw [h]
theorem was_none {D : Dk} {p : Pth} (h : mget D.now p = none) : D.wasL p = [] := by unfold Dk.wasL; rw [h]
theorem write_some {D : Dk} {p : Pth} {i : Nat} {w : Wr} (h : mget D.now p = some i) (hi : i < D.fs.length) :
 (D.putF i ⟨w.on (D.wasL p) w.d.length, (fget D.fs i).stays, (fget D.fs i).w⟩).putF i ⟨(fget (D.putF i ⟨w.on (D.wasL p) w.d.length, (fget D.fs i).stays, (fget D.fs i).w⟩).fs i).now, (fget (D.putF i ⟨w.on (D.wasL p) w.d.length, (fget D.fs i).stays, (fget D.fs i).w⟩).fs i).stays, (fget (D.putF i ⟨w.on (D.wasL p) w.d.length, (fget D.fs i).stays, (fget D.fs i).w⟩).fs i).w ++ [w]⟩ = D.write p w := by
 rw [fget_put hi, put_put, was_some h]
 unfold Dk.write Dk.make; rw [h]
def mk1 (D : Dk) (p : Pth) : Dk := ({ D with fs := D.fs ++ [⟨[], [], []⟩] } : Dk).change ⟨[], p, some D.fs.length⟩
theorem mk1_get (D : Dk) (p : Pth) : fget (mk1 D p).fs D.fs.length = ⟨[], [], []⟩ := by simp [mk1, Dk.change, fget, List.getD]
theorem mk1_len (D : Dk) (p : Pth) : D.fs.length < (mk1 D p).fs.length := by simp [mk1, Dk.change]
theorem write_none {D : Dk} {p : Pth} {w : Wr} (h : mget D.now p = none) :
 ((mk1 D p).putF D.fs.length ⟨w.on (fget (mk1 D p).fs D.fs.length).now w.d.length, (fget (mk1 D p).fs D.fs.length).stays, (fget (mk1 D p).fs D.fs.length).w⟩).putF D.fs.length ⟨(fget ((mk1 D p).putF D.fs.length ⟨w.on (fget (mk1 D p).fs D.fs.length).now w.d.length, (fget (mk1 D p).fs D.fs.length).stays, (fget (mk1 D p).fs D.fs.length).w⟩).fs D.fs.length).now, (fget ((mk1 D p).putF D.fs.length ⟨w.on (fget (mk1 D p).fs D.fs.length).now w.d.length, (fget (mk1 D p).fs D.fs.length).stays, (fget (mk1 D p).fs D.fs.length).w⟩).fs D.fs.length).stays, (fget ((mk1 D p).putF D.fs.length ⟨w.on (fget (mk1 D p).fs D.fs.length).now w.d.length, (fget (mk1 D p).fs D.fs.length).stays, (fget (mk1 D p).fs D.fs.length).w⟩).fs D.fs.length).w ++ [w]⟩ = D.write p w := by
 rw [fget_put (mk1_len D p), put_put]
 unfold Dk.write Dk.make; rw [h]
 rfl
set_option maxHeartbeats 1000000 in
theorem lay_ct (mx_ : Int) (K : List Nat) (g : Gh) (b : Nat) (D : Dk) (p : Pth) (x : Wx) (F : Nat → Prop) (w0 : World) (H0 : Heap)
 (hf : PDk K g H0 b D) (mx : MX mx_ H0) (bf_mx : BF (fun b => b = 0) H0.size) (dmx : DFL (fun b => b = 0) K) (hd : Rd F H0 fB 1 x.2.v x.1.d) (bf_hd : BF F H0.size) (dfd : DFL F K) (hl : p.length ≤ 4294967280) (hB : Bd 274877906944 D) (hdl : x.1.d.length ≤ 274877906944) :
 Ct Tryz.prog w0 185 #[ptr b, Str p, wV x] H0 (fun r H2 => ∃ K2 : List Nat, ∃ g2 : Gh, r = .int .i64 ((D.lay p x.1).1 : Int) ∧ (PDk K2 g2 H2 b (D.lay p x.1).2) ∧ (NxK K H0.size K2) ∧ Mo (Ms K) H0 H2) := by
 refine Ct.enter (args := [ptr b, Str p, wV x]) Tryz.func185 rfl rfl rfl ?_
 intro Q0 hret
 have hm0 : Mo (Ms K) H0 H0 := Mo.refl _ _
 have nx_hm0_hf := NxK.refl K H0.size
 have hbk_hf := hf.bk
 have hop0 := hB.op
 have hdm0 := hf.dml
 obtain ⟨D1, hD1⟩ : ∃ D1, D1 = D.begin.2 := ⟨_, rfl⟩
 have hB1 := hB.begin
 rw [← hD1] at hB1
 refine CW.s1 (fun hK1 => CW.region ?_)
 refine LR.z1 (Z.boxv rfl rfl) fun v5 H5 r5 => ?_
 obtain ⟨rfl, vw, hs5, ob5, hH5⟩ := r5
 have hzs5 : H5.size = H0.size + 1 := by rw [hH5]; simp
 have dj1 : DL (H0.size + 1) K := DL.newK hf.bk
 have nx4 : Nx 0 H0.size (H0.size + 1) := Nx.new hm0.size
 replace hf := hf.nw hs5
 replace mx := mx.nw hs5
 replace hd := hd.nw hs5
 replace hm0 := hm0.trN hs5
 have hz1 := hs5.size
 replace vw : Var 275 H5 H0.size (fW x) := vw
 refine LR.a1 (LR.nil (hK1 _ _ ?_))
 refine CW.seq (fun K2 hK2 hE2 => CW.s1 (fun hK3 => CW.region ?_))
 refine LR.m1 ?_
 refine LR.call rfl c'184 rfl (Wd.u rfl) rfl rfl (begin_ct K g b D w0 _ hf (by omega)) (fun v12 H12 r12 => ?_)
 obtain ⟨g1, rfl, hf, hg1, hs12⟩ := r12
 replace mx := mx.upL hs12 (dmx)
 replace hd := hd.upL hs12 (dfd)
 replace vw := vw.upL hs12 (dj1)
 replace hm0 := hm0.trL hs12 (MIL.ofK (nx_hm0_hf) (by intro k hk; simp [hk]))
 have hz2 := hs12.size
 rw [← hD1] at hf
 refine LR.v1 (Y.not rfl rfl) (LR.nil (hK3 _ _ ?_))
 refine CW.cond rfl (fun c13 => ?_) (fun c13 => ?_)
 ·
  refine CW.s1 (fun hK4 => CW.region ?_)
  refine LR.a1 (LR.nil (hK4 _ _ ?_))
  refine CW.ret (hE2 .ret nofun _ _ (hret .ret (.inr rfl) _ _ _ (res1 rfl rfl) ?_))
  have hdd := lay_dead (p := p) (w := x.1) (show D.begin.1 = false by simpa using c13)
  exact ⟨_, _, by rw [hdd]; rfl, by rw [hdd]; rw [hD1] at hf; exact hf, nx_hm0_hf, hm0⟩
 ·
  have hgo : D.begin.1 = true := by simpa using c13
  have hops := (begin_true hgo).1
  rw [← hD1] at hops
  have hlo := look_or D1 p
  have hlay := lay_go (p := p) (w := x.1) hgo
  rw [← hD1] at hlay
  refine CW.skip (hK2 _ _ (CW.s1 (fun hK5 => CW.region ?_)))
  refine LR.m1 ?_
  refine LR.m1 ?_
  refine LR.call rfl c'168 rfl (Wd.u rfl) rfl rfl (find_ct mx_ K g1 b D1 p w0 _ mx (bf_mx.mono (by omega)) hf hl) (fun v17 H17 r17 => ?_)
  obtain ⟨rfl, hs17⟩ := r17
  replace hf := hf.nw hs17
  replace mx := mx.nw hs17
  replace hd := hd.nw hs17
  replace vw := vw.nw hs17
  replace hm0 := hm0.trN hs17
  have hz3 := hs17.size
  refine LR.m1 ?_
  refine LR.v1 (Y.extract rfl rfl rfl) ?_
  refine LR.v1 (Y.extract rfl rfl rfl) ?_
  refine LR.a1 ?_
  refine LR.a1 (LR.nil (hK5 _ _ ?_))
  refine CW.s2 (fun hK6 hE6 => CW.s1 (fun hK7 => CW.region ?_))
  refine LR.m1 ?_
  refine LR.v1 (Y.eql rfl rfl rfl) (LR.nil (hK7 _ _ ?_))
  refine CW.condp rfl (fun c21 => ?_) (fun c21 => ?_)
  ·
   refine CW.s1 (fun hK8 => CW.region ?_)
   refine LR.m1 ?_
   refine LR.a1 (LR.nil (hK8 _ _ ?_))
   refine CW.ret (hE6 .ret nofun _ _ (hret .ret (.inr rfl) _ _ _ (res1 rfl rfl) ?_))
   have hE : D1.layE p x.1 = 7 := layE_7 (look_7 (D := D1) (by omega))
   exact ⟨_, _, by rw [hlay, hE]; rw [show D1.look p = 7 by omega]; rfl, by rw [hlay]; simp only [hE]; exact hf, nx_hm0_hf, hm0⟩
  ·
   refine CW.skip (hK6 _ _ (CW.s1 (fun hK9 => CW.region ?_)))
   refine LR.a1 (LR.nil (hK9 _ _ ?_))
   refine CW.s1 (fun hK10 => CW.s1 (fun hK11 => CW.region ?_))
   refine LR.m1 ?_
   refine LR.v1 (Y.peq rfl (by kernel_rfl) (by kernel_rfl) rfl rfl) (LR.nil (hK11 _ _ ?_))
   refine CW.cond rfl (fun c24 => ?_) (fun c24 => ?_)
   ·
    have hlk : D1.look p = 2 := by
     rcases hlo with h | h | h
     · obtain ⟨_, i, hi⟩ := look_0 h
       rw [if_pos h, hi] at c24; cases c24
     · exact h
     · omega
    obtain ⟨hnm, hnow⟩ := look_2 hlk
    have hwas := was_none hnow
    have hwas0 : (D1.wasL p).length = 0 := by rw [hwas]; rfl
    refine CW.region ?_
    refine LR.v1 (Y.build (v := .agg #[.slice none 0 0, .slice none 0 0, .slice none 0 0]) rfl rfl (by intro w; kernel_rfl)) ?_
    refine LR.z1 (Z.boxv rfl rfl) fun v26 H26 r26 => ?_
    obtain ⟨rfl, vf, hs26, ob26, hH26⟩ := r26
    have hzs26 : H26.size = H17.size + 1 := by rw [hH26]; simp
    have dj5 : DL (H17.size + 1) K := DL.newK hf.bk
    have df7 := (DF.new (bf_hd.mono hm0.size) : DF _ (H17.size + 1))
    have dj8 : Dj (H0.size + 1) (H17.size + 1) := Dj.new vw.lt
    have nx9 : Nx 0 H0.size (H17.size + 1) := Nx.new hm0.size
    replace hf := hf.nw hs26
    replace mx := mx.nw hs26
    replace hd := hd.nw hs26
    replace vw := vw.nw hs26
    replace hm0 := hm0.trN hs26
    have hz4 := hs26.size
    replace vf : Var 186 H26 H17.size ([.slice none 0 0, .slice none 0 0, .slice none 0 0]) := vf
    refine LR.a1 (LR.nil (hK10 _ _ ?_))
    refine CW.s1 (fun hK12 => CW.region ?_)
    refine LR.v1 (Y.FA vw.pt rfl u'275 rfl s'57) ?_
    refine LR.v1 (Y.load1 (vw.pt.drop 1) rfl a'57 rfl) ?_
    refine LR.v1 (Y.len hd rfl u'57 rfl) ?_
    refine LR.a1 (LR.nil (hK12 _ _ ?_))
    refine CW.cut (fun (sz : (Nat)) => [(0, ptr b), (1, Str p), (5, .pointer (some ⟨H0.size, 0, none⟩)), (7, ptr H17.size), (8, .int .i64 (D1.look p : Int)), (9, .int .i64 (0)), (10, .int .i64 (sz : Int))])
     (fun (sz : (Nat)) (H : Heap) => (sz = (x.1.on (D1.wasL p) x.1.d.length).length) ∧ ((D1.wasL p).length ≤ 274877906945) ∧ Nw H26 H) (fun _ hK13 _ => ?_) ?_
    ·
     have hcm13 : Nw H26 H26 := Mo.refl _ _
     refine CW.s1 (fun hK14 => CW.region ?_)
     refine LR.v1 (Y.FA vw.pt rfl u'275 rfl s'4) ?_
     refine LR.v1 (Y.load1 vw.pt rfl a'4 rfl) (LR.nil (hK14 _ _ ?_))
     refine CW.cond rfl (fun c37 => ?_) (fun c37 => ?_)
     ·
      refine CW.region ?_
      refine LR.m1 ?_
      refine LR.m1 ?_
      refine LR.v1 (Y.addi rfl rfl rfl (by omega)) ?_
      refine LR.a1 (LR.nil ?_)
      refine QN.sub (hK13 ((D1.wasL p).length + x.1.d.length) _ ?_) ⟨rfl, rfl, rfl, rfl, (iv (by omega)), (iv (by omega)), (iv (by omega)), trivial⟩
      exact ⟨by rw [on_len, if_pos c37], by first | (rw [hwas]; omega) | (rw [hwas]; simp), hcm13⟩
     ·
      refine CW.skip ?_
      refine QN.sub (hK13 x.1.d.length _ ?_) ⟨rfl, rfl, rfl, rfl, (iv (by omega)), (iv (by omega)), (iv (by omega)), trivial⟩
      exact ⟨by rw [on_len, if_neg (by simpa using c37)]; omega, by first | (rw [hwas]; omega) | (rw [hwas]; simp), hcm13⟩
    ·
     intro sz Hcutc37 hIcutc37
     obtain ⟨hsz, hwl, hlmcutc37⟩ := hIcutc37
     replace hf := hf.nw hlmcutc37
     replace mx := mx.nw hlmcutc37
     replace hd := hd.nw hlmcutc37
     replace vw := vw.nw hlmcutc37
     replace vf := vf.nw hlmcutc37
     replace hm0 := hm0.trN hlmcutc37
     have hz5 := hlmcutc37.size
     have hus := hB1.us
     have hszl : sz ≤ 274877906945 + 274877906944 := by rw [hsz, on_len]; split <;> omega
     refine CW.s2 (fun hK15 hE15 => CW.block (fun _ hK16 _ hE16 => CW.s1 (fun hK17 => CW.region ?_)))
     refine LR.m1 ?_
     refine LR.m1 ?_
     refine LR.v1 (Y.nilCheck rfl rfl) ?_
     refine LR.v1 (Y.FA hf.vb.pt rfl u'102 rfl s'3) ?_
     refine LR.v1 (Y.load1 (hf.vb.pt.drop 1) rfl a'3 rfl) ?_
     refine LR.v1 (Y.gtr rfl rfl rfl) ?_
     refine LR.a1 (LR.nil (hK17 _ _ ?_))
     refine CW.condp rfl (fun c41 => ?_) (fun c41 => ?_)
     ·
      refine CW.s1 (fun hK18 => CW.region ?_)
      refine LR.a1 (LR.nil (hK18 _ _ ?_))
      refine CW.ret (hE16 .ret nofun (by simp) _ _ (hE15 .ret nofun _ _ (hret .ret (.inr rfl) _ _ _ (res1 rfl rfl) ?_)))
      have hE : D1.layE p x.1 = 5 := layE_5 hnm (by omega)
      exact ⟨_, _, by rw [hlay, hE]; rfl, by rw [hlay]; simp only [hE]; exact hf, nx_hm0_hf, hm0⟩
     ·
      refine CW.s1 (fun hK19 => ?_)
      refine CW.region_any (fun Hq => Nw Hcutc37 Hq) [] rfl ?_
      have hqs := Nw.refl Hcutc37
      refine LH.m1 0 rfl hqs ?_
      refine LH.m1 2 rfl hqs ?_
      refine LH.m1 4 rfl hqs ?_
      refine LH.m1 6 rfl hqs ?_
      refine LH.t1 7 rfl (fun Hq hq => Y.nilCheck rfl rfl) hqs ?_
      refine LH.t1 8 rfl (fun Hq hq => Y.FA (hf.vb.pt.nw hq) rfl u'102 rfl s'3) hqs ?_
      refine LH.t1 9 rfl (fun Hq hq => Y.load1 ((hf.vb.pt.drop 0).nw hq) rfl a'3 rfl) hqs ?_
      refine LH.o1 1 ?_
      refine LO.call rfl rfl c'226 rfl (Wd.u rfl) rfl rfl (used_ct _ _ b D1 w0 _ hf hB1.an (by omega)) (fun v50 H50 r50 => ?_)
      obtain ⟨rfl, hs50⟩ := r50
      replace hf := hf.nw hs50
      replace mx := mx.nw hs50
      replace hd := hd.nw hs50
      replace vw := vw.nw hs50
      replace vf := vf.nw hs50
      replace hm0 := hm0.trN hs50
      have hz6 := hs50.size
      have hq50 := hqs.tr hs50
      refine ⟨.inr hq50, LH.narrow (SH2 := fun Hq => Nw H50 Hq) (fun Hq hq => hq50.tr hq) ?_⟩
      have hqn50 := Nw.refl H50
      refine LH.t1 3 rfl (fun Hq hq => Y.subi rfl rfl rfl (by omega)) hqn50 ?_
      refine LH.t1 5 rfl (fun Hq hq => Y.addi rfl rfl rfl (by omega)) hqn50 ?_
      refine LH.t1 10 rfl (fun Hq hq => Y.gtr rfl rfl rfl) hqn50 ?_
      refine LH.t1 11 rfl (fun Hq hq => Y.assign rfl rfl) hqn50 ?_
      refine LH.done (by kernel_rfl) ?_
      have hqe := hqn50
      refine hK19 _ _ ?_
      refine CW.condp rfl (fun c48 => ?_) (fun c48 => ?_)
      ·
       refine CW.s1 (fun hK20 => CW.region ?_)
       refine LR.a1 (LR.nil (hK20 _ _ ?_))
       refine CW.ret (hE16 .ret nofun (by simp) _ _ (hE15 .ret nofun _ _ (hret .ret (.inr rfl) _ _ _ (res1 rfl rfl) ?_)))
       have hE : D1.layE p x.1 = 12 := layE_12 hnm (by omega) (by omega)
       exact ⟨_, _, by rw [hlay, hE]; rfl, by rw [hlay]; simp only [hE]; exact hf, nx_hm0_hf, hm0⟩
      ·
       refine CW.skip (hK16 _ _ (hK15 _ _ (CW.s1 (fun hK21 => CW.s1 (fun hK22 => CW.region ?_)))))
       refine LR.m1 ?_
       refine LR.v1 (Y.eql rfl rfl rfl) (LR.nil (hK22 _ _ ?_))
       refine CW.condp rfl (fun c61 => ?_) (fun c61 => ?_)
       ·
        have hlen1 := hf.len
        refine CW.region ?_
        refine LR.m1 ?_
        refine LR.m1 ?_
        refine LR.call rfl c'177 rfl (Wd.u rfl) rfl rfl (dir_ct mx_ p w0 _ mx (bf_mx.mono (by omega)) hl) (fun v64 H64 r64 => ?_)
        obtain ⟨rfl, hs64⟩ := r64
        replace hf := hf.nw hs64
        replace hd := hd.nw hs64
        replace vw := vw.nw hs64
        replace vf := vf.nw hs64
        replace hm0 := hm0.trN hs64
        have hz7 := hs64.size
        refine LR.m1 ?_
        refine LR.m1 ?_
        refine LR.v1 (Y.cast (v2 := .agg (fC (g1.fb ++ [H17.size]) ⟨[], p, some D1.fs.length⟩).toArray) (Y.build (v := .agg #[Str [], Str p, ptr H17.size]) rfl rfl (by intro w; kernel_rfl)) (by simp [fC, fpt, List.getD, ← hf.len])) ?_
        have df11 := DFL.cons (df7) (dfd)
        have dj12 : DL (H0.size + 1) ((H17.size + 1) :: K) := DL.cons (dj8) (dj1)
        have nx13 := NxK.cons (nx9) (nx_hm0_hf)
        replace hf := hf.newFil vf (dj5)
        have hbk_hf := hf.bk
        refine LR.call rfl c'221 rfl (Wd.u rfl) rfl rfl (change_ct ((H17.size + 1) :: K) { g1 with ρ := upr g1.ρ H17.size (.fil D1.fs.length), fb := g1.fb ++ [H17.size] } b { D1 with fs := D1.fs ++ [⟨[], [], []⟩] } (dirP p) ⟨[], p, some D1.fs.length⟩ w0 _ hf (by show g1.dm.length + 1 ≤ D1.ops; rw [hg1.2.2.2]; omega) (by simp [Chg.dir]) (fun i hi => by cases hi; exact ⟨rfl, by simp⟩) (fun h => absurd rfl h) (by have := hB1.lg; show D1.log.length ≤ _; omega)) (fun v68 H68 r68 => ?_)
        have ql15 := vw.lt
        obtain ⟨K68, g68, rfl, hf, hkd68, hg68, hs68⟩ := r68
        have dj18 : DL (H0.size + 1) K68 := DL.appK (dj12) ql15 hkd68
        have nx19 : NxK K H0.size K68 := NxK.tr (nx13) hkd68 hm0.size
        replace hd := hd.upL hs68 (df11)
        replace vw := vw.upL hs68 (dj12)
        replace hm0 := hm0.trL hs68 (MIL.ofK (nx13) (by intro k hk; simp [hk]))
        have hz8 := hs68.size
        have hbk_hf := hf.bk
        obtain ⟨i, hie⟩ : ∃ i, i = D1.fs.length := ⟨_, rfl⟩
        have hil : i < (mk1 D1 p).fs.length := by rw [hie]; exact mk1_len D1 p
        have hbi0 : g68.fb.getD i 0 = H17.size := by rw [hg68, hie]; simp [List.getD, ← hlen1]
        obtain ⟨bi, hbi, hbv⟩ : ∃ bi, g68.fb.getD i 0 = bi ∧ ptr H17.size = ptr bi := ⟨_, hbi0, rfl⟩
        have hnow2 : (fget (mk1 D1 p).fs i).now = D1.wasL p := by rw [hie, mk1_get, hwas]
        have hwi : (fget (mk1 D1 p).fs i).w.length ≤ 274877906945 := by rw [hie, mk1_get]; simp
        replace hf : PDk K68 g68 H68 b (mk1 D1 p) := hf
        refine LR.nil (hK21 _ _ (CW.s1 (fun hK23 => CW.region ?_)))
        refine LR.v1 (Y.FA vw.pt rfl u'275 rfl s'57) ?_
        refine LR.v1 (Y.load1 (vw.pt.drop 1) rfl a'57 rfl) ?_
        refine LR.call rfl c'59 rfl (Wd.u rfl) rfl rfl (bclone_ct _ x.1.d w0 _ hd.any (by omega)) (fun v71 H71 r71 => ?_)
        obtain ⟨s71, k71, rfl, ow71, hk71, hs71⟩ := r71
        have dj20 : DL k71 K68 := DL.app2 (DL.zK) hf.bk hk71
        have dj23 : Dj (H0.size + 1) k71 := Dj.app (Dj.z) vw.lt hk71
        have nx24 : Nx 0 H0.size k71 := Nx.tr (Nx.refl 0 _) hk71 hm0.size
        replace hf := hf.nw hs71
        replace vw := vw.nw hs71
        replace hm0 := hm0.trN hs71
        have hz9 := hs71.size
        have hle_ow71 := ow71.le
        refine LR.v1 (Y.FA vw.pt rfl u'275 rfl s'57) ?_
        refine LR.s1 (S.var1 vw 1 ([.bool x.1.b, s71.v]) rfl rfl rfl (rfl) s'57 (by simp) (rfl)) fun H19_4 r19_4 => ?_
        obtain ⟨vw, hs19_4⟩ := r19_4
        replace hs19_4 := hs19_4.md1
        replace hf := hf.upL hs19_4 (DKL.cons dj18 DKL.nil)
        replace ow71 := ow71.upL hs19_4 (DL.o dj23.symm)
        replace hm0 := hm0.trL hs19_4 (MIL.o (MI.q nx4))
        have hz10 := hs19_4.size
        refine LR.nil (hK23 _ _ (CW.s1 (fun hK24 => ?_)))
        obtain ⟨nvB, svB, wvB, kwB, lwB, hfiB⟩ := hf.fil i hil
        have hop : Mo (Ms [(bi + 1)]) H19_4 H19_4 := Mo.refl _ _
        have km25 : KM K68 (bi + 1) := (hf.kmf hfiB hbi)
        have vf2 := hfiB.atb hbi
        have hlt_vf2 := vf2.lt
        have dj28 : Dj (H0.size + 1) (bi + 1) := DL.at (dj18) km25
        have dj29 : Dj k71 (bi + 1) := DL.at (dj20) km25
        have nx30 : MI K H0.size (bi + 1) := MIL.at (MIL.ofK (nx19) (by intro k hk; simp [hk])) km25
        have nx31 := Nx.refl (bi + 1) H19_4.size
        refine CW.region_any (fun Hq => Nw H19_4 Hq) [11, 12, 13, 14] rfl ?_
        have hq20 : Nw H19_4 H19_4 := Mo.refl _ _
        refine LH.t1 0 rfl (fun Hq hq => Y.cast (v2 := ptr bi) (Y.move rfl rfl) (hbv)) hq20 ?_
        refine LH.t1 1 rfl (fun Hq hq => Y.loadN (vw.pt.nw hq) rfl a'275 s'275 (rfl) rfl) hq20 ?_
        refine LH.t1 2 rfl (fun Hq hq => Y.cast (v2 := ptr bi) (Y.move rfl rfl) (hbv)) hq20 ?_
        refine LH.t1 3 rfl (fun Hq hq => Y.nilCheck rfl rfl) hq20 ?_
        refine LH.t1 4 rfl (fun Hq hq => Y.FA (vf2.pt.nw hq) rfl u'186 rfl s'183) hq20 ?_
        refine LH.t1 5 rfl (fun Hq hq => Y.FA (vf2.pt.nw hq) rfl u'183 rfl s'57) hq20 ?_
        refine LH.t1 6 rfl (fun Hq hq => Y.load1 (vf2.pt.nw hq) rfl a'57 rfl) hq20 ?_
        refine LH.t1 7 rfl (fun Hq hq => Y.FA (vw.pt.nw hq) rfl u'275 rfl s'57) hq20 ?_
        refine LH.t1 8 rfl (fun Hq hq => Y.load1 ((vw.pt.drop 1).nw hq) rfl a'57 rfl) hq20 ?_
        refine LH.t1 9 rfl (fun Hq hq => Y.len (ow71.rd.nw hq) rfl u'57 rfl) hq20 ?_
        refine LH.o1 10 ?_
        refine LO.call rfl rfl c'160 rfl (Wd.u rfl) rfl rfl (on_ct (x.1, s71) nvB _ x.1.d.length w0 _ ow71.rd.any hfiB.hn.any (Nat.le_refl _) (by rw [hnow2]; omega)) (fun v83 H83 r83 => ?_)
        obtain ⟨s83, k83, rfl, ow83, hk83, hs83⟩ := r83
        have dj34 : Dj (H0.size + 1) k83 := Dj.app (Dj.z) vw.lt hk83
        have dj35 : Dj k71 k83 := Dj.app (Dj.z) ow71.le hk83
        have dj36 : Dj (bi + 1) k83 := Dj.app (Dj.z) vf2.lt hk83
        have nx37 : Nx 0 H0.size k83 := Nx.tr (Nx.refl 0 _) hk83 hm0.size
        have nx38 : Nx 0 H19_4.size k83 := Nx.tr (Nx.refl 0 _) hk83 hop.size
        have nx39 : Nx 0 H19_4.size k83 := Nx.tr (Nx.refl 0 _) hk83 hq20.size
        replace vw := vw.nw hs83
        replace ow71 := ow71.nw hs83
        replace vf2 := vf2.nw hs83
        replace hm0 := hm0.trN hs83
        replace hop := hop.trN hs83
        replace hq20 := hq20.tr hs83
        have hz11 := hs83.size
        have hle_ow83 := ow83.le
        refine ⟨.inr hq20, LH.narrow (SH2 := fun Hq => Mo (Ms [k83]) H83 Hq) (fun Hq hq => (Mo.trL (ks := []) (hq20.mdn []) hq (MIL.o (MI.q nx39))).nil) ?_⟩
        refine LH.o1 11 ?_
        refine LO.v rfl (Y.nilCheck rfl rfl) (Wd.u rfl) rfl rfl (.inl rfl) ?_
        refine LH.o1 12 ?_
        refine LO.v rfl (Y.FA vf2.pt rfl u'186 rfl s'183) (Wd.u rfl) rfl rfl (.inl rfl) ?_
        refine LH.o1 13 ?_
        refine LO.v rfl (Y.FA vf2.pt rfl u'183 rfl s'57) (Wd.u rfl) rfl rfl (.inl rfl) ?_
        refine LH.o1 14 ?_
        refine LO.s rfl (S.var1 vf2 0 ([s83.v, svB.v, wvB.v]) rfl rfl rfl (rfl) s'57 (by simp) (rfl)) (Wd.u rfl) rfl (fun H20_14 r20_14 => ?_)
        obtain ⟨vf2, hs20_14⟩ := r20_14
        replace hs20_14 := hs20_14.md1
        replace vw := vw.upL hs20_14 (DL.o dj28)
        replace ow71 := ow71.upL hs20_14 (DL.o dj29)
        replace ow83 := ow83.upL hs20_14 (DL.o dj36.symm)
        replace hm0 := hm0.trL hs20_14 (MIL.cons (nx30) MIL.nil)
        replace hop := hop.trL hs20_14 (MIL.o (MI.r nx31))
        have hz12 := hs20_14.size
        refine ⟨.inl rfl, ?_⟩
        refine LH.done (by kernel_rfl) ?_
        have dj41 : DL (H0.size + 1) (k83 :: K68) := (DL.cons (dj34) (dj18))
        have dj42 : DL k71 (k83 :: K68) := (DL.cons (dj35) (dj20))
        have nx45 : NxK K H0.size (k83 :: K68) := (NxK.cons (nx37) (nx19))
        replace hf := hf.fnow hil hfiB hbi hop vf2 ow83 (DL.nxK hf.bk (nx38))
        have hbk_hf := hf.bk
        refine hK24 _ _ (CW.s1 (fun hK25 => ?_))
        have hil2 := hil
        rw [← fl_put] at hil2
        obtain ⟨nvC, svC, wvC, kwC, lwC, hfiC⟩ := hf.fil i hil2
        have hlw : lwC.length ≤ 274877906945 := by have h9 := congrArg List.length hfiC.lw; rw [List.length_map, fget_put hil] at h9; rw [h9]; exact hwi
        have hop : Mo (Ms [(bi + 1), kwC]) H20_14 H20_14 := Mo.refl _ _
        have km46 : KM (k83 :: K68) (bi + 1) := (hf.kmf hfiC hbi)
        have vf2 := hfiC.atb hbi
        have hlt_vf2 := vf2.lt
        have dj50 : Dj k71 (bi + 1) := DL.at (dj42) km46
        have nx51 : MI K H0.size (bi + 1) := MIL.at (MIL.ofK (nx45) (by intro k hk; simp [hk])) km46
        have nx52 := Nx.refl (bi + 1) H20_14.size
        have km53 : KM (k83 :: K68) kwC := (hf.km hfiC.rk (by simp))
        have hw := hfiC.hw
        have hle_hw := hw.le
        have dj56 : Dj (H0.size + 1) kwC := DL.at (dj41) km53
        have dj57 : Dj k71 kwC := DL.at (dj42) km53
        have nx58 : MI K H0.size kwC := MIL.at (MIL.ofK (nx45) (by intro k hk; simp [hk])) km53
        have nx59 := Nx.refl kwC H20_14.size
        have dj60 : Dj (bi + 1) kwC := hfiC.ne hbi
        refine CW.region_any (fun Hq => Mo (Ms [kwC]) H20_14 Hq) [8, 9, 10] rfl ?_
        have hq21 : Mo (Ms [kwC]) H20_14 H20_14 := Mo.refl _ _
        have nx61 := Nx.refl kwC H20_14.size
        refine LH.t1 0 rfl (fun Hq hq => Y.cast (v2 := ptr bi) (Y.move rfl rfl) (hbv)) hq21 ?_
        refine LH.t1 1 rfl (fun Hq hq => Y.cast (v2 := ptr bi) (Y.move rfl rfl) (hbv)) hq21 ?_
        refine LH.t1 2 rfl (fun Hq hq => Y.nilCheck rfl rfl) hq21 ?_
        refine LH.t1 3 rfl (fun Hq hq => Y.fieldAddr (vf2.upL hq (DL.o dj60)).pt rfl u'186 rfl rfl s'184 (by decide) rfl) hq21 ?_
        refine LH.t1 4 rfl (fun Hq hq => Y.load1 ((vf2.upL hq (DL.o dj60)).pt.drop 2) rfl a'184 rfl) hq21 ?_
        refine LH.t1 5 rfl (fun Hq hq => Y.loadN (vw.upL hq (DL.o dj56)).pt rfl a'275 s'275 (rfl) rfl) hq21 ?_
        refine LH.o1 6 ?_
        refine LO.z rfl (Z.litw _ ([(x.1, s71)]) rfl inf184 rfl rfl rfl (by decide) (by decide) fW_len fW_one (rfl)) (Wd.u rfl) rfl rfl (fun v93 H93 r93 => ?_)
        obtain ⟨ow93, hs93, ob93, hH93⟩ := r93
        have hzs93 : H93.size = H20_14.size + 1 := by rw [hH93]; simp
        have nx70 : Nx 0 H20_14.size (H20_14.size + 1) := Nx.new hq21.size
        replace ow71 := ow71.nw hs93
        replace vf2 := vf2.nw hs93
        replace hw := hw.nw hs93
        replace hm0 := hm0.trN hs93
        replace hop := hop.trN hs93
        replace hq21 := hq21.trN hs93
        have hz13 := hs93.size
        refine ⟨.inr hq21, LH.narrow (SH2 := fun Hq => Mo (Ms [kwC, (H20_14.size + 1)]) H93 Hq) (fun Hq hq => hq21.trL hq (MIL.cons (MI.r nx61) (MIL.o (MI.q nx70)))) ?_⟩
        have hq21 : Mo (Ms [kwC, (H20_14.size + 1)]) H93 H93 := Mo.refl _ _
        have nx71 := Nx.refl kwC H93.size
        have nx72 := Nx.refl (H20_14.size + 1) H93.size
        refine LH.o1 7 ?_
        refine LO.z rfl (Z.apnd hw ow93.rd rfl inf184 rfl rfl (by first | omega | (simp; omega)) (by first | omega | (simp; omega))) (Wd.u rfl) rfl rfl (fun v94 H94 r94 => ?_)
        obtain ⟨kw2, hw, hk94, hs94⟩ := r94
        replace hk94 : Nx kwC H93.size kw2 := hk94
        replace hs94 := hs94.md
        have dj76 : Dj k71 kw2 := Dj.app (dj57) ow71.le hk94
        have dj77 : Dj (bi + 1) kw2 := Dj.app (dj60) vf2.lt hk94
        have nx80 : Nx kwC H20_14.size kw2 := Nx.tr (nx59) hk94 hop.size
        have nx81 : Nx kwC H93.size kw2 := Nx.tr (nx71) hk94 hq21.size
        replace ow71 := ow71.upL hs94 (DL.o dj57)
        replace vf2 := vf2.upL hs94 (DL.o dj60)
        replace hm0 := hm0.trL hs94 (MIL.cons (nx58) MIL.nil)
        replace hop := hop.trL hs94 (MIL.o (MI.r nx59))
        replace hq21 := hq21.trL hs94 (MIL.o (MI.r nx71))
        have hz14 := hs94.size
        have hle_hw := hw.le
        refine ⟨.inr hq21, LH.narrow (SH2 := fun Hq => Mo (Ms [kw2, (H20_14.size + 1)]) H94 Hq) (fun Hq hq => hq21.trL hq (MIL.cons (MI.r nx81) (MIL.o (MI.r nx72)))) ?_⟩
        refine LH.o1 8 ?_
        refine LO.v rfl (Y.nilCheck rfl rfl) (Wd.u rfl) rfl rfl (.inl rfl) ?_
        refine LH.o1 9 ?_
        refine LO.v rfl (Y.FA vf2.pt rfl u'186 rfl s'184) (Wd.u rfl) rfl rfl (.inl rfl) ?_
        refine LH.o1 10 ?_
        refine LO.s rfl (S.var1 vf2 2 ([nvC.v, svC.v, v94]) rfl rfl rfl (hw.rd.oneCell) s'184 (by simp) (rfl)) (Wd.u rfl) rfl (fun H21_10 r21_10 => ?_)
        obtain ⟨vf2, hs21_10⟩ := r21_10
        replace hs21_10 := hs21_10.md1
        replace ow71 := ow71.upL hs21_10 (DL.o dj50)
        replace hw := hw.upL hs21_10 (DL.o dj77.symm)
        replace hm0 := hm0.trL hs21_10 (MIL.cons (nx51) MIL.nil)
        replace hop := hop.trL hs21_10 (MIL.o (MI.r nx52))
        have hz15 := hs21_10.size
        refine ⟨.inl rfl, ?_⟩
        refine LH.done (by kernel_rfl) ?_
        obtain ⟨wv2, rfl⟩ : ∃ s : SV, v94 = s.v := ⟨toSV v94, hw.sv.symm⟩
        have nx87 : NxK K H0.size (k71 :: (kw2 :: (k83 :: K68))) := (NxK.cons (nx24) ((NxK.app (nx45) (km53) (nx80) (by omega))))
        replace hf := hf.fwr hil2 hfiC hbi hop vf2 hw (nx80) ow71 (DL.cons (dj76) (dj42))
        have hbk_hf := hf.bk
        refine hK25 _ _ (CW.s1 (fun hK26 => CW.region ?_))
        refine LR.a1 (LR.nil (hK26 _ _ ?_))
        refine CW.ret (hret .ret (.inr rfl) _ _ _ (res1 rfl rfl) ?_)
        have hE0 : D1.layE p x.1 = 0 := layE_0 hnm (by omega) (by omega)
        exact ⟨_, _, by rw [hlay, hE0]; rfl, by rw [hlay]; simp only [hE0, if_true]; first | (rw [← write_some hnow hil]; rw [← hwas] at hf; exact hf) | (rw [← write_none hnow]; subst hie; exact hf), nx87, hm0⟩
       ·
        exfalso; omega
   ·
    have hlk : D1.look p = 0 := by
     rcases hlo with h | h | h
     · exact h
     · rw [if_neg (by omega)] at c24; cases c24
     · omega
    obtain ⟨hnm, i, hnow⟩ := look_0 hlk
    have hil := hf.ids.1 p i hnow
    have hwas := was_some hnow
    obtain ⟨bi, hbi, hbv⟩ : ∃ bi, g1.fb.getD i 0 = bi ∧ .pointer (fpt g1.fb (if D1.look p = 0 then mget D1.now p else none)) = ptr bi := ⟨_, rfl, by rw [if_pos hlk, hnow]; rfl⟩
    have hnow2 := hwas.symm
    have hnwi := hB1.nw i
    have hwasl : (D1.wasL p).length ≤ 274877906945 := by rw [hwas]; exact hnwi
    have hwi := hB1.w i
    obtain ⟨nvA, svA, wvA, kwA, lwA, hfiA⟩ := hf.fil i hil
    refine CW.region ?_
    refine LR.v1 (Y.cast (v2 := fvl g1.fb i) (Y.move rfl rfl) (by rw [if_pos hlk, hnow]; rfl)) ?_
    refine LR.v1 (Y.nilCheck rfl rfl) ?_
    refine LR.v1 (Y.FA hfiA.vf.pt rfl u'186 rfl s'183) ?_
    refine LR.v1 (Y.FA (hfiA.vf.pt.drop 0) rfl u'183 rfl s'57) ?_
    refine LR.v1 (Y.load1 ((hfiA.vf.pt.drop 0).drop 0) rfl a'57 rfl) ?_
    refine LR.v1 (Y.cast (v2 := .int .i64 ((D1.wasL p).length : Int)) (Y.len hfiA.hn rfl u'57 rfl) (by rw [hwas])) ?_
    refine LR.a1 (LR.nil (hK10 _ _ ?_))
    refine CW.s1 (fun hK27 => CW.region ?_)
    refine LR.v1 (Y.FA vw.pt rfl u'275 rfl s'57) ?_
    refine LR.v1 (Y.load1 (vw.pt.drop 1) rfl a'57 rfl) ?_
    refine LR.v1 (Y.len hd rfl u'57 rfl) ?_
    refine LR.a1 (LR.nil (hK27 _ _ ?_))
    refine CW.cut (fun (sz : (Nat)) => [(0, ptr b), (1, Str p), (5, .pointer (some ⟨H0.size, 0, none⟩)), (7, .pointer (fpt g1.fb (if D1.look p = 0 then mget D1.now p else none))), (8, .int .i64 (D1.look p : Int)), (9, .int .i64 ((D1.wasL p).length : Int)), (10, .int .i64 (sz : Int))])
     (fun (sz : (Nat)) (H : Heap) => (sz = (x.1.on (D1.wasL p) x.1.d.length).length) ∧ ((D1.wasL p).length ≤ 274877906945) ∧ Nw H17 H) (fun _ hK28 _ => ?_) ?_
    ·
     have hcm28 : Nw H17 H17 := Mo.refl _ _
     refine CW.s1 (fun hK29 => CW.region ?_)
     refine LR.v1 (Y.FA vw.pt rfl u'275 rfl s'4) ?_
     refine LR.v1 (Y.load1 vw.pt rfl a'4 rfl) (LR.nil (hK29 _ _ ?_))
     refine CW.cond rfl (fun c37 => ?_) (fun c37 => ?_)
     ·
      refine CW.region ?_
      refine LR.m1 ?_
      refine LR.m1 ?_
      refine LR.v1 (Y.addi rfl rfl rfl (by omega)) ?_
      refine LR.a1 (LR.nil ?_)
      refine QN.sub (hK28 ((D1.wasL p).length + x.1.d.length) _ ?_) ⟨rfl, rfl, rfl, rfl, (iv (by omega)), (iv (by omega)), (iv (by omega)), trivial⟩
      exact ⟨by rw [on_len, if_pos c37], by first | (rw [hwas]; omega) | (rw [hwas]; simp), hcm28⟩
     ·
      refine CW.skip ?_
      refine QN.sub (hK28 x.1.d.length _ ?_) ⟨rfl, rfl, rfl, rfl, (iv (by omega)), (iv (by omega)), (iv (by omega)), trivial⟩
      exact ⟨by rw [on_len, if_neg (by simpa using c37)]; omega, by first | (rw [hwas]; omega) | (rw [hwas]; simp), hcm28⟩
    ·
     intro sz Hcutc37 hIcutc37
     obtain ⟨hsz, hwl, hlmcutc37⟩ := hIcutc37
     replace hf := hf.nw hlmcutc37
     replace hd := hd.nw hlmcutc37
     replace vw := vw.nw hlmcutc37
     replace hm0 := hm0.trN hlmcutc37
     have hz16 := hlmcutc37.size
     have hus := hB1.us
     have hszl : sz ≤ 274877906945 + 274877906944 := by rw [hsz, on_len]; split <;> omega
     refine CW.s2 (fun hK30 hE30 => CW.block (fun _ hK31 _ hE31 => CW.s1 (fun hK32 => CW.region ?_)))
     refine LR.m1 ?_
     refine LR.m1 ?_
     refine LR.v1 (Y.nilCheck rfl rfl) ?_
     refine LR.v1 (Y.FA hf.vb.pt rfl u'102 rfl s'3) ?_
     refine LR.v1 (Y.load1 (hf.vb.pt.drop 1) rfl a'3 rfl) ?_
     refine LR.v1 (Y.gtr rfl rfl rfl) ?_
     refine LR.a1 (LR.nil (hK32 _ _ ?_))
     refine CW.condp rfl (fun c41 => ?_) (fun c41 => ?_)
     ·
      refine CW.s1 (fun hK33 => CW.region ?_)
      refine LR.a1 (LR.nil (hK33 _ _ ?_))
      refine CW.ret (hE31 .ret nofun (by simp) _ _ (hE30 .ret nofun _ _ (hret .ret (.inr rfl) _ _ _ (res1 rfl rfl) ?_)))
      have hE : D1.layE p x.1 = 5 := layE_5 hnm (by omega)
      exact ⟨_, _, by rw [hlay, hE]; rfl, by rw [hlay]; simp only [hE]; exact hf, nx_hm0_hf, hm0⟩
     ·
      refine CW.s1 (fun hK34 => ?_)
      refine CW.region_any (fun Hq => Nw Hcutc37 Hq) [] rfl ?_
      have hqs := Nw.refl Hcutc37
      refine LH.m1 0 rfl hqs ?_
      refine LH.m1 2 rfl hqs ?_
      refine LH.m1 4 rfl hqs ?_
      refine LH.m1 6 rfl hqs ?_
      refine LH.t1 7 rfl (fun Hq hq => Y.nilCheck rfl rfl) hqs ?_
      refine LH.t1 8 rfl (fun Hq hq => Y.FA (hf.vb.pt.nw hq) rfl u'102 rfl s'3) hqs ?_
      refine LH.t1 9 rfl (fun Hq hq => Y.load1 ((hf.vb.pt.drop 0).nw hq) rfl a'3 rfl) hqs ?_
      refine LH.o1 1 ?_
      refine LO.call rfl rfl c'226 rfl (Wd.u rfl) rfl rfl (used_ct _ _ b D1 w0 _ hf hB1.an (by omega)) (fun v50 H50 r50 => ?_)
      obtain ⟨rfl, hs50⟩ := r50
      replace hf := hf.nw hs50
      replace hd := hd.nw hs50
      replace vw := vw.nw hs50
      replace hm0 := hm0.trN hs50
      have hz17 := hs50.size
      have hq50 := hqs.tr hs50
      refine ⟨.inr hq50, LH.narrow (SH2 := fun Hq => Nw H50 Hq) (fun Hq hq => hq50.tr hq) ?_⟩
      have hqn50 := Nw.refl H50
      refine LH.t1 3 rfl (fun Hq hq => Y.subi rfl rfl rfl (by omega)) hqn50 ?_
      refine LH.t1 5 rfl (fun Hq hq => Y.addi rfl rfl rfl (by omega)) hqn50 ?_
      refine LH.t1 10 rfl (fun Hq hq => Y.gtr rfl rfl rfl) hqn50 ?_
      refine LH.t1 11 rfl (fun Hq hq => Y.assign rfl rfl) hqn50 ?_
      refine LH.done (by kernel_rfl) ?_
      have hqe := hqn50
      refine hK34 _ _ ?_
      refine CW.condp rfl (fun c48 => ?_) (fun c48 => ?_)
      ·
       refine CW.s1 (fun hK35 => CW.region ?_)
       refine LR.a1 (LR.nil (hK35 _ _ ?_))
       refine CW.ret (hE31 .ret nofun (by simp) _ _ (hE30 .ret nofun _ _ (hret .ret (.inr rfl) _ _ _ (res1 rfl rfl) ?_)))
       have hE : D1.layE p x.1 = 12 := layE_12 hnm (by omega) (by omega)
       exact ⟨_, _, by rw [hlay, hE]; rfl, by rw [hlay]; simp only [hE]; exact hf, nx_hm0_hf, hm0⟩
      ·
       refine CW.skip (hK31 _ _ (hK30 _ _ (CW.s1 (fun hK36 => CW.s1 (fun hK37 => CW.region ?_)))))
       refine LR.m1 ?_
       refine LR.v1 (Y.eql rfl rfl rfl) (LR.nil (hK37 _ _ ?_))
       refine CW.condp rfl (fun c61 => ?_) (fun c61 => ?_)
       ·
        exfalso; omega
       ·
        refine CW.skip (hK36 _ _ (CW.s1 (fun hK38 => CW.region ?_)))
        refine LR.v1 (Y.FA vw.pt rfl u'275 rfl s'57) ?_
        refine LR.v1 (Y.load1 (vw.pt.drop 1) rfl a'57 rfl) ?_
        refine LR.call rfl c'59 rfl (Wd.u rfl) rfl rfl (bclone_ct _ x.1.d w0 _ hd.any (by omega)) (fun v71 H71 r71 => ?_)
        obtain ⟨s71, k71, rfl, ow71, hk71, hs71⟩ := r71
        have dj88 : DL k71 K := DL.app2 (DL.zK) hf.bk hk71
        have dj91 : Dj (H0.size + 1) k71 := Dj.app (Dj.z) vw.lt hk71
        have nx92 : Nx 0 H0.size k71 := Nx.tr (Nx.refl 0 _) hk71 hm0.size
        replace hf := hf.nw hs71
        replace vw := vw.nw hs71
        replace hm0 := hm0.trN hs71
        have hz18 := hs71.size
        have hle_ow71 := ow71.le
        refine LR.v1 (Y.FA vw.pt rfl u'275 rfl s'57) ?_
        refine LR.s1 (S.var1 vw 1 ([.bool x.1.b, s71.v]) rfl rfl rfl (rfl) s'57 (by simp) (rfl)) fun H19_4 r19_4 => ?_
        obtain ⟨vw, hs19_4⟩ := r19_4
        replace hs19_4 := hs19_4.md1
        replace hf := hf.upL hs19_4 (DKL.cons dj1 DKL.nil)
        replace ow71 := ow71.upL hs19_4 (DL.o dj91.symm)
        replace hm0 := hm0.trL hs19_4 (MIL.o (MI.q nx4))
        have hz19 := hs19_4.size
        refine LR.nil (hK38 _ _ (CW.s1 (fun hK39 => ?_)))
        obtain ⟨nvB, svB, wvB, kwB, lwB, hfiB⟩ := hf.fil i hil
        have hop : Mo (Ms [(bi + 1)]) H19_4 H19_4 := Mo.refl _ _
        have km93 : KM K (bi + 1) := (hf.kmf hfiB hbi)
        have vf2 := hfiB.atb hbi
        have hlt_vf2 := vf2.lt
        have dj96 : Dj (H0.size + 1) (bi + 1) := DL.at (dj1) km93
        have dj97 : Dj k71 (bi + 1) := DL.at (dj88) km93
        have nx98 : MI K H0.size (bi + 1) := MIL.at (MIL.ofK (nx_hm0_hf) (by intro k hk; simp [hk])) km93
        have nx99 := Nx.refl (bi + 1) H19_4.size
        refine CW.region_any (fun Hq => Nw H19_4 Hq) [11, 12, 13, 14] rfl ?_
        have hq20 : Nw H19_4 H19_4 := Mo.refl _ _
        refine LH.t1 0 rfl (fun Hq hq => Y.cast (v2 := ptr bi) (Y.move rfl rfl) (hbv)) hq20 ?_
        refine LH.t1 1 rfl (fun Hq hq => Y.loadN (vw.pt.nw hq) rfl a'275 s'275 (rfl) rfl) hq20 ?_
        refine LH.t1 2 rfl (fun Hq hq => Y.cast (v2 := ptr bi) (Y.move rfl rfl) (hbv)) hq20 ?_
        refine LH.t1 3 rfl (fun Hq hq => Y.nilCheck rfl rfl) hq20 ?_
        refine LH.t1 4 rfl (fun Hq hq => Y.FA (vf2.pt.nw hq) rfl u'186 rfl s'183) hq20 ?_
        refine LH.t1 5 rfl (fun Hq hq => Y.FA (vf2.pt.nw hq) rfl u'183 rfl s'57) hq20 ?_
        refine LH.t1 6 rfl (fun Hq hq => Y.load1 (vf2.pt.nw hq) rfl a'57 rfl) hq20 ?_
        refine LH.t1 7 rfl (fun Hq hq => Y.FA (vw.pt.nw hq) rfl u'275 rfl s'57) hq20 ?_
        refine LH.t1 8 rfl (fun Hq hq => Y.load1 ((vw.pt.drop 1).nw hq) rfl a'57 rfl) hq20 ?_
        refine LH.t1 9 rfl (fun Hq hq => Y.len (ow71.rd.nw hq) rfl u'57 rfl) hq20 ?_
        refine LH.o1 10 ?_
        refine LO.call rfl rfl c'160 rfl (Wd.u rfl) rfl rfl (on_ct (x.1, s71) nvB _ x.1.d.length w0 _ ow71.rd.any hfiB.hn.any (Nat.le_refl _) (by rw [hnow2]; omega)) (fun v83 H83 r83 => ?_)
        obtain ⟨s83, k83, rfl, ow83, hk83, hs83⟩ := r83
        have dj102 : Dj (H0.size + 1) k83 := Dj.app (Dj.z) vw.lt hk83
        have dj103 : Dj k71 k83 := Dj.app (Dj.z) ow71.le hk83
        have dj104 : Dj (bi + 1) k83 := Dj.app (Dj.z) vf2.lt hk83
        have nx105 : Nx 0 H0.size k83 := Nx.tr (Nx.refl 0 _) hk83 hm0.size
        have nx106 : Nx 0 H19_4.size k83 := Nx.tr (Nx.refl 0 _) hk83 hop.size
        have nx107 : Nx 0 H19_4.size k83 := Nx.tr (Nx.refl 0 _) hk83 hq20.size
        replace vw := vw.nw hs83
        replace ow71 := ow71.nw hs83
        replace vf2 := vf2.nw hs83
        replace hm0 := hm0.trN hs83
        replace hop := hop.trN hs83
        replace hq20 := hq20.tr hs83
        have hz20 := hs83.size
        have hle_ow83 := ow83.le
        refine ⟨.inr hq20, LH.narrow (SH2 := fun Hq => Mo (Ms [k83]) H83 Hq) (fun Hq hq => (Mo.trL (ks := []) (hq20.mdn []) hq (MIL.o (MI.q nx107))).nil) ?_⟩
        refine LH.o1 11 ?_
        refine LO.v rfl (Y.nilCheck rfl rfl) (Wd.u rfl) rfl rfl (.inl rfl) ?_
        refine LH.o1 12 ?_
        refine LO.v rfl (Y.FA vf2.pt rfl u'186 rfl s'183) (Wd.u rfl) rfl rfl (.inl rfl) ?_
        refine LH.o1 13 ?_
        refine LO.v rfl (Y.FA vf2.pt rfl u'183 rfl s'57) (Wd.u rfl) rfl rfl (.inl rfl) ?_
        refine LH.o1 14 ?_
        refine LO.s rfl (S.var1 vf2 0 ([s83.v, svB.v, wvB.v]) rfl rfl rfl (rfl) s'57 (by simp) (rfl)) (Wd.u rfl) rfl (fun H20_14 r20_14 => ?_)
        obtain ⟨vf2, hs20_14⟩ := r20_14
        replace hs20_14 := hs20_14.md1
        replace vw := vw.upL hs20_14 (DL.o dj96)
        replace ow71 := ow71.upL hs20_14 (DL.o dj97)
        replace ow83 := ow83.upL hs20_14 (DL.o dj104.symm)
        replace hm0 := hm0.trL hs20_14 (MIL.cons (nx98) MIL.nil)
        replace hop := hop.trL hs20_14 (MIL.o (MI.r nx99))
        have hz21 := hs20_14.size
        refine ⟨.inl rfl, ?_⟩
        refine LH.done (by kernel_rfl) ?_
        have dj109 : DL (H0.size + 1) (k83 :: K) := (DL.cons (dj102) (dj1))
        have dj110 : DL k71 (k83 :: K) := (DL.cons (dj103) (dj88))
        have nx113 : NxK K H0.size (k83 :: K) := (NxK.cons (nx105) (nx_hm0_hf))
        replace hf := hf.fnow hil hfiB hbi hop vf2 ow83 (DL.nxK hf.bk (nx106))
        have hbk_hf := hf.bk
        refine hK39 _ _ (CW.s1 (fun hK40 => ?_))
        have hil2 := hil
        rw [← fl_put] at hil2
        obtain ⟨nvC, svC, wvC, kwC, lwC, hfiC⟩ := hf.fil i hil2
        have hlw : lwC.length ≤ 274877906945 := by have h9 := congrArg List.length hfiC.lw; rw [List.length_map, fget_put hil] at h9; rw [h9]; exact hwi
        have hop : Mo (Ms [(bi + 1), kwC]) H20_14 H20_14 := Mo.refl _ _
        have km114 : KM (k83 :: K) (bi + 1) := (hf.kmf hfiC hbi)
        have vf2 := hfiC.atb hbi
        have hlt_vf2 := vf2.lt
        have dj118 : Dj k71 (bi + 1) := DL.at (dj110) km114
        have nx119 : MI K H0.size (bi + 1) := MIL.at (MIL.ofK (nx113) (by intro k hk; simp [hk])) km114
        have nx120 := Nx.refl (bi + 1) H20_14.size
        have km121 : KM (k83 :: K) kwC := (hf.km hfiC.rk (by simp))
        have hw := hfiC.hw
        have hle_hw := hw.le
        have dj124 : Dj (H0.size + 1) kwC := DL.at (dj109) km121
        have dj125 : Dj k71 kwC := DL.at (dj110) km121
        have nx126 : MI K H0.size kwC := MIL.at (MIL.ofK (nx113) (by intro k hk; simp [hk])) km121
        have nx127 := Nx.refl kwC H20_14.size
        have dj128 : Dj (bi + 1) kwC := hfiC.ne hbi
        refine CW.region_any (fun Hq => Mo (Ms [kwC]) H20_14 Hq) [8, 9, 10] rfl ?_
        have hq21 : Mo (Ms [kwC]) H20_14 H20_14 := Mo.refl _ _
        have nx129 := Nx.refl kwC H20_14.size
        refine LH.t1 0 rfl (fun Hq hq => Y.cast (v2 := ptr bi) (Y.move rfl rfl) (hbv)) hq21 ?_
        refine LH.t1 1 rfl (fun Hq hq => Y.cast (v2 := ptr bi) (Y.move rfl rfl) (hbv)) hq21 ?_
        refine LH.t1 2 rfl (fun Hq hq => Y.nilCheck rfl rfl) hq21 ?_
        refine LH.t1 3 rfl (fun Hq hq => Y.fieldAddr (vf2.upL hq (DL.o dj128)).pt rfl u'186 rfl rfl s'184 (by decide) rfl) hq21 ?_
        refine LH.t1 4 rfl (fun Hq hq => Y.load1 ((vf2.upL hq (DL.o dj128)).pt.drop 2) rfl a'184 rfl) hq21 ?_
        refine LH.t1 5 rfl (fun Hq hq => Y.loadN (vw.upL hq (DL.o dj124)).pt rfl a'275 s'275 (rfl) rfl) hq21 ?_
        refine LH.o1 6 ?_
        refine LO.z rfl (Z.litw _ ([(x.1, s71)]) rfl inf184 rfl rfl rfl (by decide) (by decide) fW_len fW_one (rfl)) (Wd.u rfl) rfl rfl (fun v93 H93 r93 => ?_)
        obtain ⟨ow93, hs93, ob93, hH93⟩ := r93
        have hzs93 : H93.size = H20_14.size + 1 := by rw [hH93]; simp
        have nx138 : Nx 0 H20_14.size (H20_14.size + 1) := Nx.new hq21.size
        replace ow71 := ow71.nw hs93
        replace vf2 := vf2.nw hs93
        replace hw := hw.nw hs93
        replace hm0 := hm0.trN hs93
        replace hop := hop.trN hs93
        replace hq21 := hq21.trN hs93
        have hz22 := hs93.size
        refine ⟨.inr hq21, LH.narrow (SH2 := fun Hq => Mo (Ms [kwC, (H20_14.size + 1)]) H93 Hq) (fun Hq hq => hq21.trL hq (MIL.cons (MI.r nx129) (MIL.o (MI.q nx138)))) ?_⟩
        have hq21 : Mo (Ms [kwC, (H20_14.size + 1)]) H93 H93 := Mo.refl _ _
        have nx139 := Nx.refl kwC H93.size
        have nx140 := Nx.refl (H20_14.size + 1) H93.size
        refine LH.o1 7 ?_
        refine LO.z rfl (Z.apnd hw ow93.rd rfl inf184 rfl rfl (by first | omega | (simp; omega)) (by first | omega | (simp; omega))) (Wd.u rfl) rfl rfl (fun v94 H94 r94 => ?_)
        obtain ⟨kw2, hw, hk94, hs94⟩ := r94
        replace hk94 : Nx kwC H93.size kw2 := hk94
        replace hs94 := hs94.md
        have dj144 : Dj k71 kw2 := Dj.app (dj125) ow71.le hk94
        have dj145 : Dj (bi + 1) kw2 := Dj.app (dj128) vf2.lt hk94
        have nx148 : Nx kwC H20_14.size kw2 := Nx.tr (nx127) hk94 hop.size
        have nx149 : Nx kwC H93.size kw2 := Nx.tr (nx139) hk94 hq21.size
        replace ow71 := ow71.upL hs94 (DL.o dj125)
        replace vf2 := vf2.upL hs94 (DL.o dj128)
        replace hm0 := hm0.trL hs94 (MIL.cons (nx126) MIL.nil)
        replace hop := hop.trL hs94 (MIL.o (MI.r nx127))
        replace hq21 := hq21.trL hs94 (MIL.o (MI.r nx139))
        have hz23 := hs94.size
        have hle_hw := hw.le
        refine ⟨.inr hq21, LH.narrow (SH2 := fun Hq => Mo (Ms [kw2, (H20_14.size + 1)]) H94 Hq) (fun Hq hq => hq21.trL hq (MIL.cons (MI.r nx149) (MIL.o (MI.r nx140)))) ?_⟩
        refine LH.o1 8 ?_
        refine LO.v rfl (Y.nilCheck rfl rfl) (Wd.u rfl) rfl rfl (.inl rfl) ?_
        refine LH.o1 9 ?_
        refine LO.v rfl (Y.FA vf2.pt rfl u'186 rfl s'184) (Wd.u rfl) rfl rfl (.inl rfl) ?_
        refine LH.o1 10 ?_
        refine LO.s rfl (S.var1 vf2 2 ([nvC.v, svC.v, v94]) rfl rfl rfl (hw.rd.oneCell) s'184 (by simp) (rfl)) (Wd.u rfl) rfl (fun H21_10 r21_10 => ?_)
        obtain ⟨vf2, hs21_10⟩ := r21_10
        replace hs21_10 := hs21_10.md1
        replace ow71 := ow71.upL hs21_10 (DL.o dj118)
        replace hw := hw.upL hs21_10 (DL.o dj145.symm)
        replace hm0 := hm0.trL hs21_10 (MIL.cons (nx119) MIL.nil)
        replace hop := hop.trL hs21_10 (MIL.o (MI.r nx120))
        have hz24 := hs21_10.size
        refine ⟨.inl rfl, ?_⟩
        refine LH.done (by kernel_rfl) ?_
        obtain ⟨wv2, rfl⟩ : ∃ s : SV, v94 = s.v := ⟨toSV v94, hw.sv.symm⟩
        have nx155 : NxK K H0.size (k71 :: (kw2 :: (k83 :: K))) := (NxK.cons (nx92) ((NxK.app (nx113) (km121) (nx148) (by omega))))
        replace hf := hf.fwr hil2 hfiC hbi hop vf2 hw (nx148) ow71 (DL.cons (dj144) (dj110))
        have hbk_hf := hf.bk
        refine hK40 _ _ (CW.s1 (fun hK41 => CW.region ?_))
        refine LR.a1 (LR.nil (hK41 _ _ ?_))
        refine CW.ret (hret .ret (.inr rfl) _ _ _ (res1 rfl rfl) ?_)
        have hE0 : D1.layE p x.1 = 0 := layE_0 hnm (by omega) (by omega)
        exact ⟨_, _, by rw [hlay, hE0]; rfl, by rw [hlay]; simp only [hE0, if_true]; first | (rw [← write_some hnow hil]; rw [← hwas] at hf; exact hf) | (rw [← write_none hnow]; subst hie; exact hf), nx155, hm0⟩
end Go.Proofs.YtfjmpninmdjcaaaGreatDoor.SimH

namespace Go.Proofs.YtfjmpninmdjcaaaGreatDoor.SimI
open E Go.RowKit SimA SimB SimC SimD SimE SimF SimG SimH
set_option maxRecDepth 20000
theorem sync_dead {D : Dk} {p : Pth} (h : D.begin.1 = false) : D.sync p = (11, D.begin.2) := by unfold Dk.sync; simp [h]
theorem sync_go {D : Dk} {p : Pth} (h : D.begin.1 = true) : D.sync p = (D.begin.2.look p, if D.begin.2.look p = 0 then D.begin.2.syncF ((mget D.begin.2.now p).getD 0) else D.begin.2) := by unfold Dk.sync; simp [h]
theorem ren_dead {D : Dk} {p q : Pth} (h : D.begin.1 = false) : D.rename p q = (11, D.begin.2) := by unfold Dk.rename; simp [h]
theorem ren_go {D : Dk} {p q : Pth} (h : D.begin.1 = true) : D.rename p q = (D.begin.2.renE p q, if D.begin.2.renE p q = 0 ∧ p ≠ q then D.begin.2.change ⟨p, q, some ((mget D.begin.2.now p).getD 0)⟩ else D.begin.2) := by unfold Dk.rename; simp [h]
theorem renE_7 {D : Dk} {p q : Pth} (h : nameB p = false ∨ nameB q = false) : D.renE p q = 7 := by unfold Dk.renE; rw [if_pos h]
theorem renE_13 {D : Dk} {p q : Pth} (h : nameB p = true) (h2 : nameB q = true) (h3 : dirP p ≠ dirP q) : D.renE p q = 13 := by unfold Dk.renE; rw [if_neg (by simp [h, h2]), if_pos h3]
theorem renE_l {D : Dk} {p q : Pth} (h : nameB p = true) (h2 : nameB q = true) (h3 : dirP p = dirP q) : D.renE p q = D.look p := by unfold Dk.renE; rw [if_neg (by simp [h, h2]), if_neg (by simpa using h3)]
theorem sd_dead {D : Dk} {p : Pth} (h : D.begin.1 = false) : D.syncDir p = (11, D.begin.2) := by unfold Dk.syncDir; simp [h]
theorem sd_go {D : Dk} {p : Pth} (h : D.begin.1 = true) : D.syncDir p = (dirE p, if dirE p = 0 then D.begin.2.stayD p else D.begin.2) := by unfold Dk.syncDir; simp [h]
theorem name_ne {p : Pth} (h : nameB p = true) : p ≠ [] := ((name_iff p).1 h).1
theorem mclone_ct {κ β : Type} {fk : κ → Value} {fv : β → Value} (mb : Nat) (m : List (κ × β)) (w0 : World) (H0 : Heap) (h : Mp H0 fk fv mb m) : Ct Tryz.prog w0 79 #[.map (some mb)] H0 (fun r H2 => ∃ b2 : Nat, r = .map (some b2) ∧ Mp H2 fk fv b2 m ∧ Nx 0 H0.size (b2 + 1) ∧ Nw H0 H2) := by
 intro w ha
 obtain ⟨r, es, clock, hv, h2, h3, h4, h5⟩ := h.mo.ex
 obtain rfl := h2
 have hb : w.heap[r]? = some (.map es clock) := by rw [ha.heap]; exact h3
 refine (AnyW.maps_Clone Tryz.mclone79 r es clock w hb).mono ?_
 rintro e w' ⟨rfl, rfl⟩
 refine ⟨_, H0.push (.map es clock), rfl, ha.alloc _, H0.size, by rw [ha.heap], ⟨⟨H0.size, es, clock, rfl, rfl, by simp, h4, h5⟩⟩, .inr (.inr (by omega)), Nw.pu _ _⟩
set_option maxHeartbeats 2000000 in
theorem write_ct (mx_ : Int) (K : List Nat) (g : Gh) (b : Nat) (D : Dk) (p : Pth) (sd : SV) (d : List UInt8) (F : Nat → Prop) (w0 : World) (H0 : Heap)
 (hf : PDk K g H0 b D) (mx : MX mx_ H0) (bf_mx : BF (fun b => b = 0) H0.size) (dmx : DFL (fun b => b = 0) K) (hd : Rd F H0 fB 1 sd.v d) (bf_hd : BF F H0.size) (dfd : DFL F K) (hl : p.length ≤ 4294967280) (hB : Bd 274877906944 D) (hdl : d.length ≤ 274877906944) :
 Ct Tryz.prog w0 170 #[ptr b, Str p, sd.v] H0 (fun r H2 => ∃ K2 : List Nat, ∃ g2 : Gh, r = .int .i64 ((D.lay p ⟨false, d⟩).1 : Int) ∧ (PDk K2 g2 H2 b (D.lay p ⟨false, d⟩).2) ∧ (NxK K H0.size K2) ∧ Mo (Ms K) H0 H2) := by
 refine Ct.enter (args := [ptr b, Str p, sd.v]) Tryz.func170 rfl rfl rfl ?_
 intro Q0 hret
 have hm0 : Mo (Ms K) H0 H0 := Mo.refl _ _
 have nx_hm0_hf := NxK.refl K H0.size
 have hbk_hf := hf.bk
 refine CW.s1 (fun hK1 => CW.region ?_)
 refine LR.a1 (LR.nil (hK1 _ _ ?_))
 refine CW.seq (fun K2 hK2 _ => CW.region ?_)
 refine LR.m1 ?_
 refine LR.m1 ?_
 refine LR.m1 ?_
 refine LR.v1 (Y.build (v := wV (⟨false, d⟩, sd)) rfl rfl (by intro w; kernel_rfl)) ?_
 refine LR.call rfl c'185 rfl (Wd.u rfl) rfl rfl (lay_ct mx_ K g b D p (⟨false, d⟩, sd) F w0 _ hf mx (bf_mx.mono (by omega)) dmx hd (bf_hd.mono (by omega)) dfd hl hB hdl) (fun v11 H11 r11 => ?_)
 obtain ⟨K11, g11, rfl, hf, hkd11, hs11⟩ := r11
 have nx4 : NxK K H0.size K11 := NxK.tr (nx_hm0_hf) hkd11 hm0.size
 replace hm0 := hm0.trL hs11 (MIL.ofK (nx_hm0_hf) (by intro k hk; simp [hk]))
 refine LR.a1 (LR.nil (hK2 _ _ ?_))
 refine CW.ret (hret .ret (.inr rfl) _ _ _ (res1 rfl rfl) ?_)
 exact ⟨_, _, rfl, hf, nx4, hm0⟩
set_option maxHeartbeats 2000000 in
theorem append_ct (mx_ : Int) (K : List Nat) (g : Gh) (b : Nat) (D : Dk) (p : Pth) (sd : SV) (d : List UInt8) (F : Nat → Prop) (w0 : World) (H0 : Heap)
 (hf : PDk K g H0 b D) (mx : MX mx_ H0) (bf_mx : BF (fun b => b = 0) H0.size) (dmx : DFL (fun b => b = 0) K) (hd : Rd F H0 fB 1 sd.v d) (bf_hd : BF F H0.size) (dfd : DFL F K) (hl : p.length ≤ 4294967280) (hB : Bd 274877906944 D) (hdl : d.length ≤ 274877906944) :
 Ct Tryz.prog w0 110 #[ptr b, Str p, sd.v] H0 (fun r H2 => ∃ K2 : List Nat, ∃ g2 : Gh, r = .int .i64 ((D.lay p ⟨true, d⟩).1 : Int) ∧ (PDk K2 g2 H2 b (D.lay p ⟨true, d⟩).2) ∧ (NxK K H0.size K2) ∧ Mo (Ms K) H0 H2) := by
 refine Ct.enter (args := [ptr b, Str p, sd.v]) Tryz.func110 rfl rfl rfl ?_
 intro Q0 hret
 have hm0 : Mo (Ms K) H0 H0 := Mo.refl _ _
 have nx_hm0_hf := NxK.refl K H0.size
 have hbk_hf := hf.bk
 refine CW.s1 (fun hK1 => CW.region ?_)
 refine LR.a1 (LR.nil (hK1 _ _ ?_))
 refine CW.seq (fun K2 hK2 _ => CW.region ?_)
 refine LR.m1 ?_
 refine LR.m1 ?_
 refine LR.m1 ?_
 refine LR.v1 (Y.build (v := wV (⟨true, d⟩, sd)) rfl rfl (by intro w; kernel_rfl)) ?_
 refine LR.call rfl c'185 rfl (Wd.u rfl) rfl rfl (lay_ct mx_ K g b D p (⟨true, d⟩, sd) F w0 _ hf mx (bf_mx.mono (by omega)) dmx hd (bf_hd.mono (by omega)) dfd hl hB hdl) (fun v11 H11 r11 => ?_)
 obtain ⟨K11, g11, rfl, hf, hkd11, hs11⟩ := r11
 have nx4 : NxK K H0.size K11 := NxK.tr (nx_hm0_hf) hkd11 hm0.size
 replace hm0 := hm0.trL hs11 (MIL.ofK (nx_hm0_hf) (by intro k hk; simp [hk]))
 refine LR.a1 (LR.nil (hK2 _ _ ?_))
 refine CW.ret (hret .ret (.inr rfl) _ _ _ (res1 rfl rfl) ?_)
 exact ⟨_, _, rfl, hf, nx4, hm0⟩
set_option maxHeartbeats 2000000 in
theorem sync_ct (mx_ : Int) (K : List Nat) (g : Gh) (b : Nat) (D : Dk) (p : Pth) (w0 : World) (H0 : Heap)
 (hf : PDk K g H0 b D) (mx : MX mx_ H0) (bf_mx : BF (fun b => b = 0) H0.size) (dmx : DFL (fun b => b = 0) K) (hl : p.length ≤ 4294967280) (hB : Bd 274877906944 D) :
 Ct Tryz.prog w0 107 #[ptr b, Str p] H0 (fun r H2 => ∃ K2 : List Nat, ∃ g2 : Gh, r = .int .i64 ((D.sync p).1 : Int) ∧ (PDk K2 g2 H2 b (D.sync p).2) ∧ (NxK K H0.size K2) ∧ Mo (Ms K) H0 H2) := by
 refine Ct.enter (args := [ptr b, Str p]) Tryz.func107 rfl rfl rfl ?_
 intro Q0 hret
 have hm0 : Mo (Ms K) H0 H0 := Mo.refl _ _
 have nx_hm0_hf := NxK.refl K H0.size
 have hbk_hf := hf.bk
 have hop0 := hB.op
 have hdm0 := hf.dml
 obtain ⟨D1, hD1⟩ : ∃ D1, D1 = D.begin.2 := ⟨_, rfl⟩
 have hB1 := hB.begin
 rw [← hD1] at hB1
 refine CW.s1 (fun hK1 => CW.region ?_)
 refine LR.a1 (LR.nil (hK1 _ _ ?_))
 refine CW.seq (fun K2 hK2 hE2 => CW.s1 (fun hK3 => CW.region ?_))
 refine LR.m1 ?_
 refine LR.call rfl c'184 rfl (Wd.u rfl) rfl rfl (begin_ct K g b D w0 _ hf (by omega)) (fun v8 H8 r8 => ?_)
 obtain ⟨g1, rfl, hf, hg1, hs8⟩ := r8
 replace mx := mx.upL hs8 (dmx)
 replace hm0 := hm0.trL hs8 (MIL.ofK (nx_hm0_hf) (by intro k hk; simp [hk]))
 have hz1 := hs8.size
 rw [← hD1] at hf
 refine LR.v1 (Y.not rfl rfl) (LR.nil (hK3 _ _ ?_))
 refine CW.cond rfl (fun c9 => ?_) (fun c9 => ?_)
 ·
  refine CW.s1 (fun hK4 => CW.region ?_)
  refine LR.a1 (LR.nil (hK4 _ _ ?_))
  refine CW.ret (hE2 .ret nofun _ _ (hret .ret (.inr rfl) _ _ _ (res1 rfl rfl) ?_))
  have hdd := sync_dead (p := p) (show D.begin.1 = false by simpa using c9)
  exact ⟨_, _, by rw [hdd]; rfl, by rw [hdd]; rw [hD1] at hf; exact hf, nx_hm0_hf, hm0⟩
 ·
  have hgo : D.begin.1 = true := by simpa using c9
  have hops := (begin_true hgo).1
  rw [← hD1] at hops
  have hlay := sync_go (p := p) hgo
  rw [← hD1] at hlay
  refine CW.skip (hK2 _ _ (CW.s1 (fun hK5 => CW.region ?_)))
  refine LR.m1 ?_
  refine LR.m1 ?_
  refine LR.call rfl c'168 rfl (Wd.u rfl) rfl rfl (find_ct mx_ K g1 b D1 p w0 _ mx (bf_mx.mono (by omega)) hf hl) (fun v13 H13 r13 => ?_)
  obtain ⟨rfl, hs13⟩ := r13
  replace hf := hf.nw hs13
  replace hm0 := hm0.trN hs13
  have hz2 := hs13.size
  refine LR.m1 ?_
  refine LR.v1 (Y.extract rfl rfl rfl) ?_
  refine LR.v1 (Y.extract rfl rfl rfl) ?_
  refine LR.a1 ?_
  refine LR.a1 (LR.nil (hK5 _ _ ?_))
  refine CW.s1 (fun hK6 => CW.s1 (fun hK7 => CW.region ?_))
  refine LR.m1 ?_
  refine LR.v1 (Y.eql rfl rfl rfl) (LR.nil (hK7 _ _ ?_))
  refine CW.condp rfl (fun c17 => ?_) (fun c17 => ?_)
  ·
   have hlk : D1.look p = 0 := by omega
   obtain ⟨hnm, i, hnow⟩ := look_0 hlk
   have hil := hf.ids.1 p i hnow
   obtain ⟨bi, hbi, hbv⟩ : ∃ bi, g1.fb.getD i 0 = bi ∧ .pointer (fpt g1.fb (if D1.look p = 0 then mget D1.now p else none)) = ptr bi := ⟨_, rfl, by rw [if_pos hlk, hnow]; rfl⟩
   obtain ⟨nvB, svB, wvB, kwB, lwB, hfiB⟩ := hf.fil i hil
   have hop : Mo (Ms [(bi + 1)]) H13 H13 := Mo.refl _ _
   have km1 : KM K (bi + 1) := (hf.kmf hfiB hbi)
   have vf2 := hfiB.atb hbi
   have nx3 : MI K H0.size (bi + 1) := MIL.at (MIL.ofK (nx_hm0_hf) (by intro k hk; simp [hk])) km1
   have nx4 := Nx.refl (bi + 1) H13.size
   refine CW.region ?_
   refine LR.v1 (Y.cast (v2 := ptr bi) (Y.move rfl rfl) (hbv)) ?_
   refine LR.v1 (Y.cast (v2 := ptr bi) (Y.move rfl rfl) (hbv)) ?_
   refine LR.v1 (Y.cast (v2 := ptr bi) (Y.move rfl rfl) (hbv)) ?_
   refine LR.v1 (Y.nilCheck rfl rfl) ?_
   refine LR.v1 (Y.FA vf2.pt rfl u'186 rfl s'183) ?_
   refine LR.v1 (Y.FA vf2.pt rfl u'183 rfl s'57) ?_
   refine LR.v1 (Y.load1 vf2.pt rfl a'57 rfl) ?_
   refine LR.v1 (Y.nilCheck rfl rfl) ?_
   refine LR.v1 (Y.FA vf2.pt rfl u'186 rfl s'183) ?_
   refine LR.v1 (Y.FA vf2.pt rfl u'183 rfl s'57) ?_
   refine LR.s1 (S.var1 vf2 1 ([nvB.v, nvB.v, wvB.v]) rfl rfl rfl (rfl) s'57 (by simp) (rfl)) fun H5_10 r5_10 => ?_
   obtain ⟨vf2, hs5_10⟩ := r5_10
   replace hs5_10 := hs5_10.md1
   replace hm0 := hm0.trL hs5_10 (MIL.cons (nx3) MIL.nil)
   replace hop := hop.trL hs5_10 (MIL.o (MI.r nx4))
   refine LR.v1 (Y.nilCheck rfl rfl) ?_
   refine LR.v1 (Y.FA vf2.pt rfl u'186 rfl s'184) ?_
   refine LR.s1 (S.var1 vf2 2 ([nvB.v, nvB.v, .slice none 0 0]) rfl rfl rfl (rfl) s'184 (by simp) (rfl)) fun H5_13 r5_13 => ?_
   obtain ⟨vf2, hs5_13⟩ := r5_13
   replace hs5_13 := hs5_13.md1
   replace hm0 := hm0.trL hs5_13 (MIL.cons (nx3) MIL.nil)
   replace hop := hop.trL hs5_13 (MIL.o (MI.r nx4))
   refine LR.nil ?_
   have nx6 : NxK K H0.size K := nx_hm0_hf
   replace hf := hf.fsync hil hfiB hbi hop vf2
   refine hK6 _ _ (CW.s1 (fun hK8 => CW.region ?_))
   refine LR.m1 ?_
   refine LR.a1 (LR.nil (hK8 _ _ ?_))
   refine CW.ret (hret .ret (.inr rfl) _ _ _ (res1 rfl rfl) ?_)
   exact ⟨_, _, by rw [hlay]; rfl, by rw [hlay]; simp only [hlk, if_true, hnow, Option.getD_some]; exact hf, nx6, hm0⟩
  ·
   refine CW.skip (hK6 _ _ (CW.s1 (fun hK9 => CW.region ?_)))
   refine LR.m1 ?_
   refine LR.a1 (LR.nil (hK9 _ _ ?_))
   refine CW.ret (hret .ret (.inr rfl) _ _ _ (res1 rfl rfl) ?_)
   exact ⟨_, _, by rw [hlay]; rfl, by rw [hlay]; rw [if_neg (by omega)]; exact hf, nx_hm0_hf, hm0⟩
set_option maxHeartbeats 2000000 in
theorem rename_ct (mx_ : Int) (K : List Nat) (g : Gh) (b : Nat) (D : Dk) (p q : Pth) (w0 : World) (H0 : Heap)
 (hf : PDk K g H0 b D) (mx : MX mx_ H0) (bf_mx : BF (fun b => b = 0) H0.size) (dmx : DFL (fun b => b = 0) K) (hl : p.length ≤ 4294967280) (hl2 : q.length ≤ 4294967280) (hB : Bd 274877906944 D) :
 Ct Tryz.prog w0 174 #[ptr b, Str p, Str q] H0 (fun r H2 => ∃ K2 : List Nat, ∃ g2 : Gh, r = .int .i64 ((D.rename p q).1 : Int) ∧ (PDk K2 g2 H2 b (D.rename p q).2) ∧ (NxK K H0.size K2) ∧ Mo (Ms K) H0 H2) := by
 refine Ct.enter (args := [ptr b, Str p, Str q]) Tryz.func174 rfl rfl rfl ?_
 intro Q0 hret
 have hm0 : Mo (Ms K) H0 H0 := Mo.refl _ _
 have nx_hm0_hf := NxK.refl K H0.size
 have hbk_hf := hf.bk
 have hop0 := hB.op
 have hdm0 := hf.dml
 obtain ⟨D1, hD1⟩ : ∃ D1, D1 = D.begin.2 := ⟨_, rfl⟩
 have hB1 := hB.begin
 rw [← hD1] at hB1
 refine CW.s1 (fun hK1 => CW.region ?_)
 refine LR.a1 (LR.nil (hK1 _ _ ?_))
 refine CW.seq (fun K2 hK2 hE2 => CW.s1 (fun hK3 => CW.region ?_))
 refine LR.m1 ?_
 refine LR.call rfl c'184 rfl (Wd.u rfl) rfl rfl (begin_ct K g b D w0 _ hf (by omega)) (fun v10 H10 r10 => ?_)
 obtain ⟨g1, rfl, hf, hg1, hs10⟩ := r10
 replace mx := mx.upL hs10 (dmx)
 replace hm0 := hm0.trL hs10 (MIL.ofK (nx_hm0_hf) (by intro k hk; simp [hk]))
 have hz1 := hs10.size
 rw [← hD1] at hf
 refine LR.v1 (Y.not rfl rfl) (LR.nil (hK3 _ _ ?_))
 refine CW.cond rfl (fun c11 => ?_) (fun c11 => ?_)
 ·
  refine CW.s1 (fun hK4 => CW.region ?_)
  refine LR.a1 (LR.nil (hK4 _ _ ?_))
  refine CW.ret (hE2 .ret nofun _ _ (hret .ret (.inr rfl) _ _ _ (res1 rfl rfl) ?_))
  have hdd := ren_dead (p := p) (q := q) (show D.begin.1 = false by simpa using c11)
  exact ⟨_, _, by rw [hdd]; rfl, by rw [hdd]; rw [hD1] at hf; exact hf, nx_hm0_hf, hm0⟩
 ·
  have hgo : D.begin.1 = true := by simpa using c11
  have hops := (begin_true hgo).1
  rw [← hD1] at hops
  have hlay := ren_go (p := p) (q := q) hgo
  rw [← hD1] at hlay
  refine CW.skip (hK2 _ _ (CW.s2 (fun hK5 hE5 => CW.block (fun _ hK6 _ hE6 => CW.s1 (fun hK7 => CW.region ?_)))))
  refine LR.m1 ?_
  refine LR.call rfl c'88 rfl (Wd.u rfl) rfl rfl (name_ct mx_ p w0 _ mx (bf_mx.mono (by omega)) hl) (fun v14 H14 r14 => ?_)
  obtain ⟨rfl, hs14⟩ := r14
  replace hf := hf.nw hs14
  replace mx := mx.nw hs14
  replace hm0 := hm0.trN hs14
  have hz2 := hs14.size
  refine LR.v1 (Y.not rfl rfl) ?_
  refine LR.m1 ?_
  refine LR.split (d := 16) rfl (fun g16 => ?_) (fun g16 => ?_)
  ·
   refine LR.g1 ?_
   refine LR.g1 ?_
   refine LR.g1 ?_
   refine LR.v1 (Y.pick_t rfl rfl rfl) ?_
   refine LR.a1 (LR.nil (hK7 _ _ ?_))
   refine CW.cond_t rfl ?_
   refine CW.s1 (fun hK8 => CW.region ?_)
   refine LR.a1 (LR.nil (hK8 _ _ ?_))
   refine CW.ret (hE6 .ret nofun (by simp) _ _ (hE5 .ret nofun _ _ (hret .ret (.inr rfl) _ _ _ (res1 rfl rfl) ?_)))
   have hE := renE_7 (D := D1) (p := p) (q := q) (by first | exact .inl (by simpa using g16) | exact .inr (by simpa using c12))
   exact ⟨_, _, by rw [hlay, hE]; rfl, by rw [hlay, hE]; exact hf, nx_hm0_hf, hm0⟩
  ·
   refine LR.w1 (Y.move rfl rfl) ?_
   refine LR.call rfl c'88 rfl (Wd.g rfl rfl rfl) rfl rfl (name_ct mx_ q w0 _ mx (bf_mx.mono (by omega)) hl2) (fun v18 H18 r18 => ?_)
   obtain ⟨rfl, hs18⟩ := r18
   replace hf := hf.nw hs18
   replace mx := mx.nw hs18
   replace hm0 := hm0.trN hs18
   have hz3 := hs18.size
   refine LR.w1 (Y.not rfl rfl) ?_
   refine LR.v1 (Y.pick_f rfl rfl rfl) ?_
   refine LR.a1 (LR.nil (hK7 _ _ ?_))
   refine CW.cond rfl (fun c12 => ?_) (fun c12 => ?_)
   ·
    refine CW.s1 (fun hK9 => CW.region ?_)
    refine LR.a1 (LR.nil (hK9 _ _ ?_))
    refine CW.ret (hE6 .ret nofun (by simp) _ _ (hE5 .ret nofun _ _ (hret .ret (.inr rfl) _ _ _ (res1 rfl rfl) ?_)))
    have hE := renE_7 (D := D1) (p := p) (q := q) (by first | exact .inl (by simpa using g16) | exact .inr (by simpa using c12))
    exact ⟨_, _, by rw [hlay, hE]; rfl, by rw [hlay, hE]; exact hf, nx_hm0_hf, hm0⟩
   ·
    refine CW.s1 (fun hK10 => CW.region ?_)
    refine LR.m1 ?_
    refine LR.call rfl c'177 rfl (Wd.u rfl) rfl rfl (dir_ct mx_ p w0 _ mx (bf_mx.mono (by omega)) hl) (fun v23 H23 r23 => ?_)
    obtain ⟨rfl, hs23⟩ := r23
    replace hf := hf.nw hs23
    replace mx := mx.nw hs23
    replace hm0 := hm0.trN hs23
    have hz4 := hs23.size
    refine LR.m1 ?_
    refine LR.call rfl c'177 rfl (Wd.u rfl) rfl rfl (dir_ct mx_ q w0 _ mx (bf_mx.mono (by omega)) hl2) (fun v25 H25 r25 => ?_)
    obtain ⟨rfl, hs25⟩ := r25
    replace hf := hf.nw hs25
    replace mx := mx.nw hs25
    replace hm0 := hm0.trN hs25
    have hz5 := hs25.size
    refine LR.v1 (Y.sneq rfl rfl rfl) ?_
    refine LR.a1 (LR.nil (hK10 _ _ ?_))
    refine CW.condp rfl (fun c21 => ?_) (fun c21 => ?_)
    ·
     refine CW.s1 (fun hK11 => CW.region ?_)
     refine LR.a1 (LR.nil (hK11 _ _ ?_))
     refine CW.ret (hE6 .ret nofun (by simp) _ _ (hE5 .ret nofun _ _ (hret .ret (.inr rfl) _ _ _ (res1 rfl rfl) ?_)))
     have hE := renE_13 (D := D1) (p := p) (q := q) (by simpa using g16) (by simpa using c12) (by simpa using c21)
     exact ⟨_, _, by rw [hlay, hE]; rfl, by rw [hlay, hE]; exact hf, nx_hm0_hf, hm0⟩
    ·
     have hdq : dirP p = dirP q := by simpa using c21
     have hn1 : nameB p = true := by simpa using g16
     have hn2 : nameB q = true := by simpa using c12
     have hrl := renE_l (D := D1) hn1 hn2 hdq
     refine CW.skip (hK6 _ _ (hK5 _ _ (CW.s1 (fun hK12 => CW.region ?_))))
     refine LR.m1 ?_
     refine LR.m1 ?_
     refine LR.call rfl c'168 rfl (Wd.u rfl) rfl rfl (find_ct mx_ K g1 b D1 p w0 _ mx (bf_mx.mono (by omega)) hf hl) (fun v30 H30 r30 => ?_)
     obtain ⟨rfl, hs30⟩ := r30
     replace hf := hf.nw hs30
     replace mx := mx.nw hs30
     replace hm0 := hm0.trN hs30
     have hz6 := hs30.size
     refine LR.m1 ?_
     refine LR.v1 (Y.extract rfl rfl rfl) ?_
     refine LR.v1 (Y.extract rfl rfl rfl) ?_
     refine LR.a1 ?_
     refine LR.a1 (LR.nil (hK12 _ _ ?_))
     refine CW.s1 (fun hK13 => CW.s1 (fun hK14 => CW.region ?_))
     refine LR.m1 ?_
     refine LR.v1 (Y.eql rfl rfl rfl) ?_
     refine LR.m1 ?_
     refine LR.splitp (d := 35) rfl (fun g35 => ?_) (fun g35 => ?_)
     ·
      refine LR.w1 (Y.move rfl rfl) ?_
      refine LR.w1 (Y.move rfl rfl) ?_
      refine LR.w1 (Y.sneq rfl rfl rfl) ?_
      refine LR.v1 (Y.pick_t rfl rfl rfl) (LR.nil (hK14 _ _ ?_))
      refine CW.condp rfl (fun c39 => ?_) (fun c39 => ?_)
      ·
       have hlk : D1.look p = 0 := by omega
       obtain ⟨hnm, i, hnow⟩ := look_0 hlk
       have hil := hf.ids.1 p i hnow
       refine CW.region ?_
       refine LR.m1 ?_
       refine LR.m1 ?_
       refine LR.call rfl c'177 rfl (Wd.u rfl) rfl rfl (dir_ct mx_ p w0 _ mx (bf_mx.mono (by omega)) hl) (fun v42 H42 r42 => ?_)
       obtain ⟨rfl, hs42⟩ := r42
       replace hf := hf.nw hs42
       replace hm0 := hm0.trN hs42
       have hz7 := hs42.size
       refine LR.m1 ?_
       refine LR.m1 ?_
       refine LR.m1 ?_
       refine LR.v1 (Y.cast (v2 := .agg (fC g1.fb ⟨p, q, some i⟩).toArray) (Y.build (v := .agg #[Str p, Str q, .pointer (fpt g1.fb (if D1.look p = 0 then mget D1.now p else none))]) rfl rfl (by intro w; kernel_rfl)) (by rw [if_pos hlk, hnow])) ?_
       refine LR.call rfl c'221 rfl (Wd.u rfl) rfl rfl (change_ct K g1 b D1 (dirP p) ⟨p, q, some i⟩ w0 _ hf (by rw [hg1.2.2.2]; omega) (by simp [Chg.dir, name_ne hnm]) (fun j hj => by cases hj; exact ⟨hdq.symm, hil⟩) (fun h => rfl) (by have := hB1.lg; omega)) (fun v47 H47 r47 => ?_)
       obtain ⟨K47, g47, rfl, hf, hkd47, hg47, hs47⟩ := r47
       have nx3 : NxK K H0.size K47 := NxK.tr (nx_hm0_hf) hkd47 hm0.size
       replace hm0 := hm0.trL hs47 (MIL.ofK (nx_hm0_hf) (by intro k hk; simp [hk]))
       refine LR.nil (hK13 _ _ (CW.s1 (fun hK15 => CW.region ?_)))
       refine LR.m1 ?_
       refine LR.a1 (LR.nil (hK15 _ _ ?_))
       refine CW.ret (hret .ret (.inr rfl) _ _ _ (res1 rfl rfl) ?_)
       exact ⟨_, _, by rw [hlay, hrl]; rfl, by rw [hlay, hrl]; rw [if_pos ⟨hlk, by simpa using c39⟩, hnow]; exact hf, nx3, hm0⟩
      ·
       refine CW.skip (hK13 _ _ (CW.s1 (fun hK16 => CW.region ?_)))
       refine LR.m1 ?_
       refine LR.a1 (LR.nil (hK16 _ _ ?_))
       refine CW.ret (hret .ret (.inr rfl) _ _ _ (res1 rfl rfl) ?_)
       exact ⟨_, _, by rw [hlay, hrl]; rfl, by rw [hlay, hrl]; rw [if_neg (fun h => by first | exact g35 (by omega) | exact h.2 (by simpa using c39))]; exact hf, nx_hm0_hf, hm0⟩
     ·
      refine LR.g1 ?_
      refine LR.g1 ?_
      refine LR.g1 ?_
      refine LR.v1 (Y.pick_f rfl rfl rfl) (LR.nil (hK14 _ _ ?_))
      refine CW.cond_f rfl ?_
      refine CW.skip (hK13 _ _ (CW.s1 (fun hK17 => CW.region ?_)))
      refine LR.m1 ?_
      refine LR.a1 (LR.nil (hK17 _ _ ?_))
      refine CW.ret (hret .ret (.inr rfl) _ _ _ (res1 rfl rfl) ?_)
      exact ⟨_, _, by rw [hlay, hrl]; rfl, by rw [hlay, hrl]; rw [if_neg (fun h => by first | exact g35 (by omega) | exact h.2 (by simpa using c39))]; exact hf, nx_hm0_hf, hm0⟩
set_option maxHeartbeats 2000000 in
theorem syncDir_ct (mx_ : Int) (K : List Nat) (g : Gh) (b : Nat) (D : Dk) (p : Pth) (w0 : World) (H0 : Heap)
 (hf : PDk K g H0 b D) (mx : MX mx_ H0) (bf_mx : BF (fun b => b = 0) H0.size) (dmx : DFL (fun b => b = 0) K) (hl : p.length ≤ 4294967280) (hB : Bd 274877906944 D) :
 Ct Tryz.prog w0 176 #[ptr b, Str p] H0 (fun r H2 => ∃ K2 : List Nat, ∃ g2 : Gh, r = .int .i64 ((D.syncDir p).1 : Int) ∧ (PDk K2 g2 H2 b (D.syncDir p).2) ∧ (NxK K H0.size K2) ∧ Mo (Ms K) H0 H2) := by
 refine Ct.enter (args := [ptr b, Str p]) Tryz.func176 rfl rfl rfl ?_
 intro Q0 hret
 have hm0 : Mo (Ms K) H0 H0 := Mo.refl _ _
 have nx_hm0_hf := NxK.refl K H0.size
 have hbk_hf := hf.bk
 have hop0 := hB.op
 have hdm0 := hf.dml
 obtain ⟨D1, hD1⟩ : ∃ D1, D1 = D.begin.2 := ⟨_, rfl⟩
 have hB1 := hB.begin
 rw [← hD1] at hB1
 refine CW.s1 (fun hK1 => CW.region ?_)
 refine LR.a1 (LR.nil (hK1 _ _ ?_))
 refine CW.seq (fun K2 hK2 hE2 => CW.s1 (fun hK3 => CW.region ?_))
 refine LR.m1 ?_
 refine LR.call rfl c'184 rfl (Wd.u rfl) rfl rfl (begin_ct K g b D w0 _ hf (by omega)) (fun v7 H7 r7 => ?_)
 obtain ⟨g1, rfl, hf, hg1, hs7⟩ := r7
 replace mx := mx.upL hs7 (dmx)
 replace hm0 := hm0.trL hs7 (MIL.ofK (nx_hm0_hf) (by intro k hk; simp [hk]))
 have hz1 := hs7.size
 rw [← hD1] at hf
 refine LR.v1 (Y.not rfl rfl) (LR.nil (hK3 _ _ ?_))
 refine CW.cond rfl (fun c8 => ?_) (fun c8 => ?_)
 ·
  refine CW.s1 (fun hK4 => CW.region ?_)
  refine LR.a1 (LR.nil (hK4 _ _ ?_))
  refine CW.ret (hE2 .ret nofun _ _ (hret .ret (.inr rfl) _ _ _ (res1 rfl rfl) ?_))
  have hdd := sd_dead (p := p) (show D.begin.1 = false by simpa using c8)
  exact ⟨_, _, by rw [hdd]; rfl, by rw [hdd]; rw [hD1] at hf; exact hf, nx_hm0_hf, hm0⟩
 ·
  have hgo : D.begin.1 = true := by simpa using c8
  have hops := (begin_true hgo).1
  rw [← hD1] at hops
  have hlay := sd_go (p := p) hgo
  rw [← hD1] at hlay
  refine CW.skip (hK2 _ _ (CW.s2 (fun hK5 hE5 => CW.s1 (fun hK6 => CW.region ?_))))
  refine LR.m1 ?_
  refine LR.v1 (Y.sneq rfl rfl rfl) ?_
  refine LR.m1 ?_
  refine LR.splitp (d := 11) rfl (fun g11 => ?_) (fun g11 => ?_)
  ·
   refine LR.w1 (Y.move rfl rfl) ?_
   refine LR.call rfl c'88 rfl (Wd.g rfl rfl rfl) rfl rfl (name_ct mx_ p w0 _ mx (bf_mx.mono (by omega)) hl) (fun v13 H13 r13 => ?_)
   obtain ⟨rfl, hs13⟩ := r13
   replace hf := hf.nw hs13
   replace hm0 := hm0.trN hs13
   have hz2 := hs13.size
   refine LR.w1 (Y.not rfl rfl) ?_
   refine LR.v1 (Y.pick_t rfl rfl rfl) (LR.nil (hK6 _ _ ?_))
   refine CW.cond rfl (fun c15 => ?_) (fun c15 => ?_)
   ·
    refine CW.s1 (fun hK7 => CW.region ?_)
    refine LR.a1 (LR.nil (hK7 _ _ ?_))
    refine CW.ret (hE5 .ret nofun _ _ (hret .ret (.inr rfl) _ _ _ (res1 rfl rfl) ?_))
    have hE : dirE p = 7 := by unfold dirE; rw [if_pos ⟨g11, by simpa using c15⟩]
    exact ⟨_, _, by rw [hlay, hE]; rfl, by rw [hlay, hE]; exact hf, nx_hm0_hf, hm0⟩
   ·
    refine CW.skip (hK5 _ _ (CW.s1 (fun hK8 => CW.region ?_)))
    refine LR.m1 ?_
    refine LR.m1 ?_
    refine LR.call rfl c'222 rfl (Wd.u rfl) rfl rfl (mkdir_ct K g1 b D1 p w0 _ hf (by rw [hg1.2.2.2]; omega)) (fun v18 H18 r18 => ?_)
    obtain ⟨K18, g18, db, rfl, hf, hkd18, hdb, hg18, hs18⟩ := r18
    have nx3 : NxK K H0.size K18 := NxK.tr (nx_hm0_hf) hkd18 hm0.size
    replace hm0 := hm0.trL hs18 (MIL.ofK (nx_hm0_hf) (by intro k hk; simp [hk]))
    refine LR.a1 (LR.nil (hK8 _ _ ?_))
    refine CW.s1 (fun hK9 => ?_)
    obtain ⟨nbB, sbB, kcB, svB, nmB, smB, hdB⟩ := hf.dirs _ db hdb
    have hop : Mo (Ms [(db + 1)]) H18 H18 := Mo.refl _ _
    have km4 : KM K18 (db + 1) := (hf.km1 hdB.rd (by simp))
    have vd := hdB.vd
    have nx6 : MI K H0.size (db + 1) := MIL.at (MIL.ofK (nx3) (by intro k hk; simp [hk])) km4
    have nx7 := Nx.refl (db + 1) H18.size
    refine CW.region ?_
    refine LR.m1 ?_
    refine LR.m1 ?_
    refine LR.m1 ?_
    refine LR.v1 (Y.nilCheck rfl rfl) ?_
    refine LR.v1 (Y.FA vd.pt rfl u'173 rfl s'170) ?_
    refine LR.v1 (Y.FA vd.pt rfl u'170 rfl s'168) ?_
    refine LR.v1 (Y.load1 vd.pt rfl a'168 rfl) ?_
    refine LR.call rfl c'79 rfl (Wd.u rfl) rfl rfl (mclone_ct nbB nmB w0 _ hdB.hn) (fun v26 H26 r26 => ?_)
    obtain ⟨b26, rfl, hm26, hk26, hs26⟩ := r26
    have dj9 : Dj (db + 1) (b26 + 1) := Dj.app (Dj.z) vd.lt hk26
    have nx10 : Nx 0 H0.size (b26 + 1) := Nx.tr (Nx.refl 0 _) hk26 hm0.size
    have nx11 : Nx 0 H18.size (b26 + 1) := Nx.tr (Nx.refl 0 _) hk26 hop.size
    replace vd := vd.nw hs26
    replace hm0 := hm0.trN hs26
    replace hop := hop.trN hs26
    refine LR.v1 (Y.nilCheck rfl rfl) ?_
    refine LR.v1 (Y.FA vd.pt rfl u'173 rfl s'170) ?_
    refine LR.v1 (Y.FA vd.pt rfl u'170 rfl s'168) ?_
    refine LR.s1 (S.var1 vd 1 ([.map (some nbB), .map (some b26), svB.v]) rfl rfl rfl (rfl) s'168 (by simp) (rfl)) fun H6_11 r6_11 => ?_
    obtain ⟨vd, hs6_11⟩ := r6_11
    replace hs6_11 := hs6_11.md1
    replace hm26 := hm26.upL hs6_11 (DL.o dj9.symm)
    replace hm0 := hm0.trL hs6_11 (MIL.cons (nx6) MIL.nil)
    replace hop := hop.trL hs6_11 (MIL.o (MI.r nx7))
    refine LR.v1 (Y.nilCheck rfl rfl) ?_
    refine LR.v1 (Y.FA vd.pt rfl u'173 rfl s'171) ?_
    refine LR.s1 (S.var1 vd 2 ([.map (some nbB), .map (some b26), .slice none 0 0]) rfl rfl rfl (rfl) s'171 (by simp) (rfl)) fun H6_14 r6_14 => ?_
    obtain ⟨vd, hs6_14⟩ := r6_14
    replace hs6_14 := hs6_14.md1
    replace hm26 := hm26.upL hs6_14 (DL.o dj9.symm)
    replace hm0 := hm0.trL hs6_14 (MIL.cons (nx6) MIL.nil)
    replace hop := hop.trL hs6_14 (MIL.o (MI.r nx7))
    refine LR.nil ?_
    have nx13 : NxK K H0.size ((b26 + 1) :: K18) := (NxK.cons (nx10) (nx3))
    replace hf := hf.dsync hB1.an hdb hdB hop vd hm26 (fun _ => rfl) (DL.nxK hf.bk (nx11))
    refine hK9 _ _ (CW.s1 (fun hK10 => CW.region ?_))
    refine LR.a1 (LR.nil (hK10 _ _ ?_))
    refine CW.ret (hret .ret (.inr rfl) _ _ _ (res1 rfl rfl) ?_)
    have hE : dirE p = 0 := by unfold dirE; rw [if_neg (fun h => by first | exact absurd h.1 g11 | (rw [h.2] at c15; cases c15))]
    exact ⟨_, _, by rw [hlay, hE]; rfl, by rw [hlay, hE]; exact hf, nx13, hm0⟩
  ·
   refine LR.g1 ?_
   refine LR.g1 ?_
   refine LR.g1 ?_
   refine LR.v1 (Y.pick_f rfl rfl rfl) (LR.nil (hK6 _ _ ?_))
   refine CW.cond_f rfl ?_
   refine CW.skip (hK5 _ _ (CW.s1 (fun hK11 => CW.region ?_)))
   refine LR.m1 ?_
   refine LR.m1 ?_
   refine LR.call rfl c'222 rfl (Wd.u rfl) rfl rfl (mkdir_ct K g1 b D1 p w0 _ hf (by rw [hg1.2.2.2]; omega)) (fun v18 H18 r18 => ?_)
   obtain ⟨K18, g18, db, rfl, hf, hkd18, hdb, hg18, hs18⟩ := r18
   have nx16 : NxK K H0.size K18 := NxK.tr (nx_hm0_hf) hkd18 hm0.size
   replace hm0 := hm0.trL hs18 (MIL.ofK (nx_hm0_hf) (by intro k hk; simp [hk]))
   refine LR.a1 (LR.nil (hK11 _ _ ?_))
   refine CW.s1 (fun hK12 => ?_)
   obtain ⟨nbB, sbB, kcB, svB, nmB, smB, hdB⟩ := hf.dirs _ db hdb
   have hop : Mo (Ms [(db + 1)]) H18 H18 := Mo.refl _ _
   have km17 : KM K18 (db + 1) := (hf.km1 hdB.rd (by simp))
   have vd := hdB.vd
   have nx19 : MI K H0.size (db + 1) := MIL.at (MIL.ofK (nx16) (by intro k hk; simp [hk])) km17
   have nx20 := Nx.refl (db + 1) H18.size
   refine CW.region ?_
   refine LR.m1 ?_
   refine LR.m1 ?_
   refine LR.m1 ?_
   refine LR.v1 (Y.nilCheck rfl rfl) ?_
   refine LR.v1 (Y.FA vd.pt rfl u'173 rfl s'170) ?_
   refine LR.v1 (Y.FA vd.pt rfl u'170 rfl s'168) ?_
   refine LR.v1 (Y.load1 vd.pt rfl a'168 rfl) ?_
   refine LR.call rfl c'79 rfl (Wd.u rfl) rfl rfl (mclone_ct nbB nmB w0 _ hdB.hn) (fun v26 H26 r26 => ?_)
   obtain ⟨b26, rfl, hm26, hk26, hs26⟩ := r26
   have dj22 : Dj (db + 1) (b26 + 1) := Dj.app (Dj.z) vd.lt hk26
   have nx23 : Nx 0 H0.size (b26 + 1) := Nx.tr (Nx.refl 0 _) hk26 hm0.size
   have nx24 : Nx 0 H18.size (b26 + 1) := Nx.tr (Nx.refl 0 _) hk26 hop.size
   replace vd := vd.nw hs26
   replace hm0 := hm0.trN hs26
   replace hop := hop.trN hs26
   refine LR.v1 (Y.nilCheck rfl rfl) ?_
   refine LR.v1 (Y.FA vd.pt rfl u'173 rfl s'170) ?_
   refine LR.v1 (Y.FA vd.pt rfl u'170 rfl s'168) ?_
   refine LR.s1 (S.var1 vd 1 ([.map (some nbB), .map (some b26), svB.v]) rfl rfl rfl (rfl) s'168 (by simp) (rfl)) fun H6_11 r6_11 => ?_
   obtain ⟨vd, hs6_11⟩ := r6_11
   replace hs6_11 := hs6_11.md1
   replace hm26 := hm26.upL hs6_11 (DL.o dj22.symm)
   replace hm0 := hm0.trL hs6_11 (MIL.cons (nx19) MIL.nil)
   replace hop := hop.trL hs6_11 (MIL.o (MI.r nx20))
   refine LR.v1 (Y.nilCheck rfl rfl) ?_
   refine LR.v1 (Y.FA vd.pt rfl u'173 rfl s'171) ?_
   refine LR.s1 (S.var1 vd 2 ([.map (some nbB), .map (some b26), .slice none 0 0]) rfl rfl rfl (rfl) s'171 (by simp) (rfl)) fun H6_14 r6_14 => ?_
   obtain ⟨vd, hs6_14⟩ := r6_14
   replace hs6_14 := hs6_14.md1
   replace hm26 := hm26.upL hs6_14 (DL.o dj22.symm)
   replace hm0 := hm0.trL hs6_14 (MIL.cons (nx19) MIL.nil)
   replace hop := hop.trL hs6_14 (MIL.o (MI.r nx20))
   refine LR.nil ?_
   have nx26 : NxK K H0.size ((b26 + 1) :: K18) := (NxK.cons (nx23) (nx16))
   replace hf := hf.dsync hB1.an hdb hdB hop vd hm26 (fun _ => rfl) (DL.nxK hf.bk (nx24))
   refine hK12 _ _ (CW.s1 (fun hK13 => CW.region ?_))
   refine LR.a1 (LR.nil (hK13 _ _ ?_))
   refine CW.ret (hret .ret (.inr rfl) _ _ _ (res1 rfl rfl) ?_)
   have hE : dirE p = 0 := by unfold dirE; rw [if_neg (fun h => by first | exact absurd h.1 g11 | (rw [h.2] at c15; cases c15))]
   exact ⟨_, _, by rw [hlay, hE]; rfl, by rw [hlay, hE]; exact hf, nx26, hm0⟩
end Go.Proofs.YtfjmpninmdjcaaaGreatDoor.SimI

namespace Go.Proofs.YtfjmpninmdjcaaaGreatDoor.SimJ
open E Go.RowKit SimA SimB SimC SimD SimE SimF SimG SimH SimI
set_option maxRecDepth 20000
open Go.Sort Go.Shelf
theorem blt_lt (a b : Pth) : blt a b ↔ a < b := by unfold blt; rw [bytesLess_eq, decide_eq_true_iff]
theorem not_blt {a b : Pth} (h : a ≤ b) : ¬ blt b a := by rw [blt_lt]; exact List.not_lt.2 h
theorem sorted_rise {l m : List Pth} (hn : l.Nodup) (h : m = l.mergeSort (fun x y => decide (x ≤ y))) : Rise m ∧ m.Perm l := by
 subst h
 have hp := List.mergeSort_perm l (fun x y => decide (x ≤ y))
 have hs : (l.mergeSort (fun x y => decide (x ≤ y))).Pairwise (fun x y => decide (x ≤ y) = true) := List.pairwise_mergeSort (le := fun x y : List UInt8 => decide (x ≤ y)) (fun a b c h1 h2 => by
  simp only [decide_eq_true_eq] at *; exact List.le_trans h1 h2) (fun a b => by
  simp only [Bool.or_eq_true, decide_eq_true_eq]; exact List.le_total a b) l
 have hn2 : (l.mergeSort (fun x y => decide (x ≤ y))).Nodup := hp.nodup_iff.2 hn
 refine ⟨?_, hp⟩
 unfold Rise
 rw [List.nodup_iff_pairwise_ne] at hn2
 refine (hs.and hn2).imp (fun {x y} h => ?_)
 obtain ⟨h1, h2⟩ := h
 refine Classical.byContradiction (fun h3 => h2 (blt_total h3 ?_))
 simp only [decide_eq_true_eq] at h1
 exact not_blt h1
theorem flatS : ∀ l : List Pth, l.flatMap fS = l.map Str
 | [] => rfl
 | x :: l => by rw [List.flatMap_cons, flatS l]; rfl
theorem putCells_S (d : Array Pth) (cur : Array Value) (h : d.size ≤ cur.size) : (putCells encStr 0 d cur).size = cur.size ∧ (putCells encStr 0 d cur).toList.take d.size = d.toList.flatMap fS := by
 refine ⟨by simp [putCells], ?_⟩
 rw [flatS]
 apply List.ext_getElem?
 intro i
 rw [List.getElem?_take]
 split
 · rename_i hi
   rw [Array.getElem?_toList, List.getElem?_map, Array.getElem?_toList, Array.getElem?_eq_getElem (by simp [putCells]; omega), Array.getElem?_eq_getElem hi]
   simp only [putCells, Array.getElem_mapIdx, Nat.zero_le, Nat.zero_add, true_and, Nat.sub_zero]
   rw [if_pos hi, getElem!_pos d i hi]; rfl
 · rw [List.getElem?_map, Array.getElem?_toList, Array.getElem?_eq_none (by omega)]; rfl
theorem sortS_ct (k : Nat) (v : Value) (l : List Pth) (w0 : World) (H : Heap) (h : Ow k 9 H fS 1 v l) (hl : l.length < 4611686018427387904) :
 Ct Tryz.prog w0 134 #[v] H (fun r H2 => ∃ l2 : List Pth, ∃ k2 : Nat, r = .tuple #[] ∧ Ow k2 9 H2 fS 1 v l2 ∧ Nx k H.size k2 ∧ (l2 = l.mergeSort (fun x y => decide (x ≤ y))) ∧ Mo (Ms [k]) H H2) := by
 intro w ha
 rcases h.own.ex with ⟨hv, hx⟩ | ⟨g', cap, cur, hv, hk, hr, h1, h2, h3, h4⟩
 · subst hv hx
   exact (Any.slices_Sort_string_none Tryz.lays190 none 0 w).mono (fun e w' ⟨he, hw⟩ => ⟨_, H, he, by rw [hw]; exact ha, [], k, rfl, h, Nx.refl _ _, by simp, Mo.refl _ _⟩)
 · obtain ⟨fz, hh, hsf⟩ := id hr
   have hwb : w.heap[g']? = some (.cells cur 9 fz) := by rw [ha.heap]; exact hh
   have hle : l.length ≤ cur.size := by rw [h3]; omega
   have hH : Holds encStr w g' 0 l.toArray := by
    intro j hj
    have hjl : j < l.length := by simpa using hj
    have hc : cur[j]? = some (Str l[j]) := by
     have : (cur.toList.take (l.length * 1))[j]? = (l.flatMap fS)[j]? := by rw [h4]
     rw [List.getElem?_take, if_pos (by omega), Array.getElem?_toList, flatS] at this
     rw [this, List.getElem?_map, List.getElem?_eq_getElem hjl]; rfl
    refine ⟨?_, ?_⟩
    · simp only [World.cell?, hwb, Nat.zero_add, Option.isSome_none, Bool.false_eq_true, if_false, id_eq]
      rw [hc, getElem!_pos l.toArray j hj]; rfl
    · have := hsf.2 j (by omega)
      simp only [World.frozen?, hwb, Nat.zero_add]
      simpa using this
   have hg : g' < w.heap.size := by rw [ha.heap]; exact hr.lt
   have hcon := Any.slices_Sort_string Tryz.lays190 g' 0 cap l w hH hg hl
   rw [← hv] at hcon
   refine hcon.mono ?_
   rintro en w' ⟨he, n, os, rfl⟩
   have hd : (l.mergeSort fun x y => decide (x ≤ y)).length = l.length := List.length_mergeSort l
   obtain ⟨hF1, hF2⟩ := putCells_S (l.mergeSort fun x y => decide (x ≤ y)).toArray cur (by simp; exact hle)
   have hheap : (grow (putRow encStr (Sort.ahead w n) g' 0 (l.mergeSort fun x y => decide (x ≤ y)).toArray) os).heap = w.heap.modify g' (onCells (putCells encStr 0 (l.mergeSort fun x y => decide (x ≤ y)).toArray)) ++ os := rfl
   have hat : (grow (putRow encStr (Sort.ahead w n) g' 0 (l.mergeSort fun x y => decide (x ≤ y)).toArray) os).heap[g']? = some (.cells (putCells encStr 0 (l.mergeSort fun x y => decide (x ≤ y)).toArray cur) 9 fz) := by
    rw [hheap, Array.getElem?_append_left (by simpa using hg), Array.getElem?_modify, if_pos rfl, hwb]; rfl
   refine ⟨_, (grow (putRow encStr (Sort.ahead w n) g' 0 (l.mergeSort fun x y => decide (x ≤ y)).toArray) os).heap, he, ⟨rfl, ha.os, ha.tape, ha.output, Nat.le_trans ha.dr (Nat.le_add_right _ _)⟩, _, k, rfl, ⟨⟨fS_len, fS_one, .inr ⟨g', cap, _, by rw [hd]; exact hv, hk, ⟨fz, hat, by rw [hF1]; exact hsf⟩, by rw [hd]; exact h1, h2, by rw [hF1]; exact h3, ?_⟩⟩, ?_⟩, Nx.refl _ _, rfl, ?_, ?_⟩
   · simpa using hF2
   · rw [hheap]
     have := h.le
     simp [ha.heap]; omega
   · rw [hheap]; simp [ha.heap]
   · intro b hb hn
     have hne : g' ≠ b := fun q => hn (by unfold Ms; rw [← q]; simp [hk])
     rw [hheap, Array.getElem?_append_left (by simp [ha.heap, hb]), Array.getElem?_modify, if_neg hne, ha.heap]
end Go.Proofs.YtfjmpninmdjcaaaGreatDoor.SimJ

namespace Go.Proofs.YtfjmpninmdjcaaaGreatDoor.SimK
open E Go.RowKit SimA SimB SimC SimD SimE SimF SimG SimH SimI SimJ
set_option maxRecDepth 20000
set_option maxRecDepth 100000 in
theorem inf69 : Inf Tryz.prog 69 9 1 16 := ⟨Tryz.underlying69, _, _, rfl, rfl, rfl, rfl, rfl⟩
def rfOf : Code → Code
 | .seq _ (.seq (.seq _ (.block _ c)) _) => c
 | _ => .skip
def asOf : Code → Code
 | .rangeFunc _ _ c _ => c
 | _ => .skip
def boOf : Code → Code
 | .rangeFunc _ _ _ c => c
 | _ => .skip
structure ApR (r : Loop) (Bs : Nat) : Prop where
 st : r.state = .ready
 pe : r.pending = none
 ps : r.params = #[7]
 A : r.assign = asOf (rfOf (Tryz.f196.body.getD .skip))
 B : r.body = boOf (rfOf (Tryz.f196.body.getD .skip))
 fr : Fr Tryz.f196.ntmps [(2, .pointer (some ⟨Bs, 0, none⟩))] { tmps := r.tmps, defers := [] }
theorem ap_round (r : Loop) (Bs lp kr : Nat) (vr : Value) (ss : List Pth) (x : Pth) (w0 : World) (H : Heap) (hr : ApR r Bs) (hl : Lpr H lp r) (hB : Var 69 H Bs [vr]) (ho : Ow kr 9 H fS 1 vr ss) (d1 : Dj (lp + 1) (Bs + 1)) (d2 : Dj (lp + 1) kr) (d3 : Dj (Bs + 1) kr) (hlen : ss.length ≤ 1099511627776) :
 YCt Tryz.prog w0 lp [Str x] H (fun r' H2 => ∃ vr2 : Value, ∃ kr2 : Nat, r' = .bool true ∧ Lpr H2 lp r ∧ Var 69 H2 Bs [vr2] ∧ Ow kr2 9 H2 fS 1 vr2 (ss ++ [x]) ∧ Nx kr H.size kr2 ∧ Mo (Ms [lp + 1, Bs + 1, kr]) H H2) := by
 have hf7 := hr.fr.put (d := 7) rfl (Str x)
 refine YCt.of hl hr.st hr.pe hr.ps (hr.A.trans rfl) (hr.B.trans rfl) hf7 ?_
 have hlB : lp ≠ Bs := d1.ne
 have hll := hl.lt; have hBl := hB.lt; have hol := ho.le
 have hm := Mo.refl (Ms [lp + 1, Bs + 1, kr]) H
 refine LRI.v (Y.assign rfl rfl) (by intro c e; cases e) (Wd.u rfl) rfl rfl ?_
 refine LRI.nil (fun a w hf ha => ⟨rfl, _, H, hf, ha, hl, ?_⟩)
 have hs7 : Mo (fun c => c = lp) H (H.setIfInBounds lp (.loop { r with state := .busy })) := mo_set _
 have hl7 : Lpr (H.setIfInBounds lp (.loop { r with state := .busy })) lp { r with state := .busy } := ⟨by simp [hl.lt]⟩
 obtain ⟨H7, hH7⟩ : ∃ H7, H7 = H.setIfInBounds lp (.loop { r with state := .busy }) := ⟨_, rfl⟩
 rw [← hH7] at hs7 hl7 ⊢
 have hs7' := hs7.md1
 replace hm := hm.trL hs7' (MIL.cons (MI.root (by simp)) MIL.nil)
 replace hB := hB.upL hs7' (DL.cons (Dj.of (Ne.symm hlB)) DL.nil)
 replace ho := ho.upL hs7' (DL.o d2.symm)
 have hz7 := hs7.size
 refine LRI.v (Y.load1 hB.pt rfl a'69 rfl) (by intro c e; cases e) (Wd.u rfl) rfl rfl ?_
 refine LRI.v (Y.move rfl rfl) (by intro c e; cases e) (Wd.u rfl) rfl rfl ?_
 refine LRI.z (Z.litw _ ([x]) rfl inf69 rfl rfl rfl (by decide) (by decide) fS_len fS_one rfl) (by intro c e; cases e) (Wd.u rfl) rfl rfl (fun v10 H10 r10 => ?_)
 obtain ⟨ow10, hs10, ob10, hH10⟩ := r10
 have hz10 : H10.size = H7.size + 1 := by rw [hH10]; simp
 replace hm := hm.trN hs10
 replace hl7 := hl7.nw hs10; replace hB := hB.nw hs10; replace ho := ho.nw hs10
 have hd10 : Dj kr (H7.size + 1) := Dj.new (by omega)
 have hol10 := ho.le
 refine LRI.z (Z.apnd ho ow10.rd rfl inf69 rfl rfl (by simp; omega) (by simp; omega)) (by intro c e; cases e) (Wd.u rfl) rfl rfl (fun v11 H11 r11 => ?_)
 obtain ⟨k11, ow11, hk11, hs11⟩ := r11
 replace hk11 : Nx kr H10.size k11 := hk11
 have hs11' := hs11.md
 replace hm := hm.trL hs11' (MIL.cons (MI.root (by simp)) MIL.nil)
 replace hl7 := hl7.upL hs11' (DL.o d2)
 replace hB := hB.upL hs11' (DL.o d3)
 have hz11 := hs11.size
 have dB : Dj (Bs + 1) k11 := Dj.app d3 (by omega) hk11
 have dl : Dj (lp + 1) k11 := Dj.app d2 (by omega) hk11
 obtain ⟨s11, hs11v⟩ : ∃ s : SV, v11 = s.v := ⟨toSV v11, ow11.sv.symm⟩
 refine LRI.s (S.var1 hB 0 ([v11]) rfl rfl rfl (by rw [hs11v]; rfl) s'69 (by simp) rfl) (by intro c e; cases e) (Wd.u rfl) rfl (fun H12 r12 => ?_)
 obtain ⟨hB, hs12⟩ := r12
 have hs12' := hs12.md1
 replace hm := hm.trL hs12' (MIL.cons (MI.root (by simp)) MIL.nil)
 replace hl7 := hl7.upL hs12' (DL.o d1)
 replace ow11 := ow11.upL hs12' (DL.o dB.symm)
 have hz12 := hs12.size
 refine LRI.nil (fun a w hf ha => ⟨rfl, H12, ha, hl7, v11, k11, rfl, ?_, ?_, ?_, ?_, ?_⟩)
 · exact ⟨by simp [hl7.lt]⟩
 · exact hB.upL (Mo.md1 (mo_set (r := lp) _)) (DL.cons (Dj.of (Ne.symm hlB)) DL.nil)
 · exact ow11.upL (Mo.md1 (mo_set (r := lp) _)) (DL.o dl.symm)
 · unfold Nx at hk11 ⊢; omega
 · exact hm.trL (Mo.md1 (mo_set (r := lp) _)) (MIL.cons (MI.root (by simp)) MIL.nil)
theorem Fr.start {n : Nat} {args : List Value} (hk : args.length ≤ n) : Fr n (argL args 0) { tmps := args.toArray ++ Array.replicate (n - args.toArray.size) undef, defers := [] } := by
 refine ⟨rfl, ?_, ?_⟩
 · simp; omega
 · intro t v e
   obtain ⟨_, h2⟩ := argL_get args 0 t v e
   simp only [Nat.sub_zero] at h2
   simp only
   have hlt := (List.getElem?_eq_some_iff.1 h2).1
   rw [Array.getElem?_append_left (by simpa using hlt)]
   simpa using h2
theorem LRD.v {P : Program} {w0 : World} {Q : Exit → Act → World → Prop} {n : Nat} {l : FL} {H : Heap} {ops : Array Oper} {rest : List Oper} {o : Oper} {ds : List Deferred} {v : Value} {d : Nat} (hy : Y P w0 n l H o v) (hnd : ∀ c, o.op ≠ .defer c) (hw : Wd ops l o) (hd : o.dst = some d) (hn : Nat.blt d n = true)
 (h : ∀ a w, Fr n ((d, v) :: l) a → At w0 H w → wpListIn (FW none) 0 P ops Q rest { a with defers := ds } w) : ∀ a w, Fr n l a → At w0 H w → wpListIn (FW none) 0 P ops Q (o :: rest) { a with defers := ds } w := by
 intro a w hf ha
 have hp := hf.put hn v
 rw [← hd] at hp
 unfold wpListIn
 rw [if_pos (hw n a hf)]
 refine ⟨fun _ _ => trivial, ?_⟩
 rw [Oper.semAt_eq _ _ _ hnd]
 show Oper.uponIn _ _ _ _ _ _ _ ((execOp a.eval o).run P w)
 rw [hy a w hf ha, Oper.uponIn_value]
 have h2 := h _ w hp ha
 have e : ({ a with defers := ds } : Act).put o.dst v = { (a.put o.dst v) with defers := ds } := by rw [hd]; rfl
 rw [e]; exact h2
end Go.Proofs.YtfjmpninmdjcaaaGreatDoor.SimK

namespace Go.Proofs.YtfjmpninmdjcaaaGreatDoor.RefC
open E Go.RowKit SimA SimB SimC SimD SimE SimF SimG SimH SimI SimJ SimK
set_option maxRecDepth 20000
theorem keys1R (r_ : Loop) (lp Bs bx mb D kr : Nat) (vr : Value) (fv : Ide → Value) (mm : List (Pth × Ide)) (w0 : World) (H0 : Heap)
 (hx : Var 130 H0 bx [.map (some mb)]) (hso : Mp H0 Str fv mb mm) (hD : Dfr H0 D) (hl : Lpr H0 lp r_) (hB : Var 69 H0 Bs [vr]) (ow : Ow kr 9 H0 fS 1 vr []) (hr : ApR r_ Bs) (hmm : mm.length ≤ 1099511627776) (d_hl_hB : Dj (lp + 1) (Bs + 1)) (d_hl_ow : Dj (lp + 1) (kr)) (d_hB_ow : Dj (Bs + 1) (kr)) (d_hx_hl : Dj (bx + 1) (lp + 1)) (d_hx_hB : Dj (bx + 1) (Bs + 1)) (d_hx_ow : Dj (bx + 1) (kr)) (d_hso_hl : Dj (mb + 1) (lp + 1)) (d_hso_hB : Dj (mb + 1) (Bs + 1)) (d_hso_ow : Dj (mb + 1) (kr)) (d_hD_hl : Dj (D + 1) (lp + 1)) (d_hD_hB : Dj (D + 1) (Bs + 1)) (d_hD_ow : Dj (D + 1) (kr)) :
 Ct Tryz.prog w0 135 #[.func (.yield lp) #[] #[], .pointer (some ⟨bx, 0, none⟩)] H0 (fun r H2 => ∃ vr2 : Value, ∃ kr2 : Nat, ∃ out : List Pth, r = .tuple #[] ∧ (Lpr H2 lp r_) ∧ (Var 69 H2 Bs [vr2]) ∧ (Ow kr2 9 H2 fS 1 vr2 out) ∧ (Nx kr H0.size kr2) ∧ (out.Nodup ∧ ∀ k, k ∈ out ↔ k ∈ mm.map (·.1)) ∧ Mo (Ms [(lp + 1), (Bs + 1), kr]) H0 H2) := by
 refine Ct.enter (args := [.func (.yield lp) #[] #[], .pointer (some ⟨bx, 0, none⟩)]) Tryz.func135 rfl rfl rfl ?_
 intro Q0 hret
 have hm0 : Mo (Ms [(lp + 1), (Bs + 1), kr]) H0 H0 := Mo.refl _ _
 have hlt_hx := hx.lt
 have hlt_hso := hso.lt
 have hlt_hD := hD.lt
 have nx_hm0_hl := Nx.refl (lp + 1) H0.size
 have hlt_hl := hl.lt
 have nx_hm0_hB := Nx.refl (Bs + 1) H0.size
 have hlt_hB := hB.lt
 have nx_hm0_ow := Nx.refl kr H0.size
 have hle_ow := ow.le
 refine CW.s1 (fun hK1 => CW.region ?_)
 refine LR.v1 (Y.load1 hx.pt rfl a'130 rfl) ?_
 obtain ⟨es, ck, hso⟩ := hso.raw
 refine LR.z1 (Z.rangeA hso rfl u'130 rfl) fun v5 H5 r5 => ?_
 obtain ⟨rfl, it, hs5, ob5, hH5⟩ := r5
 have hzs5 : H5.size = H0.size + 1 := by rw [hH5]; simp
 have dj2 : Dj (mb + 1) (H0.size + 1) := Dj.new hso.lt
 have dj4 : Dj (lp + 1) (H0.size + 1) := Dj.new hl.lt
 have dj5 : Dj (Bs + 1) (H0.size + 1) := Dj.new hB.lt
 have dj6 : Dj kr (H0.size + 1) := Dj.new ow.le
 have nx7 : Nx 0 H0.size (H0.size + 1) := Nx.new hm0.size
 replace hso := hso.nw hs5
 replace hl := hl.nw hs5
 replace hB := hB.nw hs5
 replace ow := ow.nw hs5
 replace hm0 := hm0.trN hs5
 have hz1 := hs5.size
 have hlt_it := it.lt
 refine LR.nil (hK1 _ _ (CW.block (fun _ _ hX2 _ => ?_)))
 refine CW.loop (fun (s_ : (List Pth) × (Value) × (Nat)) => match s_ with | (dn, vr3, kr3) => [(0, .func (.yield lp) #[] #[]), (5, .pointer (some ⟨H0.size, 0, none⟩))])
  (fun (s_ : (List Pth) × (Value) × (Nat)) (H : Heap) => match s_ with | (dn, vr3, kr3) => (Itr H H0.size mb Str es ck dn) ∧ (Lpr H lp r_) ∧ (Var 69 H Bs [vr3]) ∧ (Ow kr3 9 H fS 1 vr3 dn) ∧ (dn.Nodup ∧ ∀ k ∈ dn, k ∈ mm.map (·.1)) ∧ (Nx kr H5.size kr3) ∧ (Dj (H0.size + 1) kr3) ∧ (Dj (lp + 1) kr3) ∧ (Dj (Bs + 1) kr3) ∧ Mo (Ms [(H0.size + 1), (lp + 1), (Bs + 1), kr]) H5 H)
  (fun (s_ : (List Pth) × (Value) × (Nat)) => match s_ with | (dn, vr3, kr3) => mm.length - dn.length) ([], vr, kr) ⟨rfl, rfl, trivial⟩ ?_ ?_
 ·
  exact ⟨it, hl, hB, ow, ⟨List.nodup_nil, by simp⟩, Nx.refl _ _, dj6.symm, d_hl_ow, d_hB_ow, Mo.refl _ _⟩
 rintro ⟨dn, vr3, kr3⟩ HL1 hI1 K3 hN3 hE3
 obtain ⟨it, hl, hB, ow, hdn, nxl_ow, dj_it_ow, dj_hl_ow, dj_hB_ow, hlm1⟩ := hI1
 have nx11 : Nx kr H0.size kr3 := Nx.tr (nx_hm0_ow) nxl_ow hm0.size
 replace hso := hso.upL hlm1 (DL.cons dj2 (DL.cons d_hso_hl (DL.cons d_hso_hB (DL.o d_hso_ow))))
 replace hm0 := hm0.trL hlm1 (MIL.cons (MI.q nx7) (MIL.cons (MI.r nx_hm0_hl) (MIL.cons (MI.r nx_hm0_hB) (MIL.o (MI.r nx_hm0_ow)))))
 have hz2 := hlm1.size
 have hle_ow := ow.le
 have dj12 := dj_it_ow
 have dj13 := dj_hl_ow
 have dj14 := dj_hB_ow
 have nx_hlm1_it := Nx.refl (H0.size + 1) H5.size
 have nx_hlm1_hl := Nx.refl (lp + 1) H5.size
 have nx_hlm1_hB := Nx.refl (Bs + 1) H5.size
 have nx15 := nxl_ow
 have hdl := nodup_le hdn.1 hdn.2
 rw [List.length_map] at hdl
 refine CW.s1 (fun hK4 => CW.region ?_)
 refine LR.z1 (Z.nextA it hso keyStr.inj rfl rfl) fun v6 H6 r6 => ?_
 obtain ⟨qb, x, y, dn2, rfl, it, hT6, hF6, hs6⟩ := r6
 replace hs6 := hs6.md1
 replace hso := hso.upL hs6 (DL.o dj2)
 replace ow := ow.upL hs6 (DL.o dj12.symm)
 replace hl := hl.upL hs6 (DL.o dj4)
 replace hB := hB.upL hs6 (DL.o dj5)
 replace hm0 := hm0.trL hs6 (MIL.o (MI.q nx7))
 replace hlm1 := hlm1.trL hs6 (MIL.o (MI.r nx_hlm1_it))
 have hz3 := hs6.size
 refine LR.v1 (Y.ext0 rfl rfl) (LR.nil (hK4 _ _ ?_))
 refine CW.s2 (fun hK5 hE5 => ?_)
 refine CW.cond rfl (fun c7 => ?_) (fun c7 => ?_)
 ·
  obtain ⟨hxy, hnd, hdq⟩ := hT6 c7
  rw [hdq] at it
  refine CW.skip (hK5 _ _ (CW.block (fun _ hK6 _ _ => CW.s1 (fun hK7 => CW.region ?_))))
  refine LR.v1 (Y.entryA it hso keyStr.inj hxy rfl rfl) ?_
  refine LR.v1 (Y.extract rfl rfl rfl) ?_
  refine LR.a1 (LR.nil (hK7 _ _ ?_))
  refine CW.s1 (fun hK8 => ?_)
  refine CW.region_in ?_
  refine LRI.v (Y.move rfl rfl) (by intro c e; cases e) (Wd.u rfl) rfl rfl ?_
  refine LRI.v (Y.move rfl rfl) (by intro c e; cases e) (Wd.u rfl) rfl rfl ?_
  refine LRI.round rfl rfl rfl (Wd.u rfl) rfl rfl (ap_round r_ Bs lp _ _ dn x w0 _ hr hl hB ow (d_hl_hB) (dj13) (dj14) (by omega)) (fun v12 H12 r12 => ?_)
  have ql20 := it.lt
  have ql21 := hl.lt
  have ql22 := hB.lt
  obtain ⟨vr12, kr12, rfl, hl, hB, ow, hk12, hs12⟩ := r12
  have dj26 : Dj (H0.size + 1) kr12 := Dj.app (dj12) ql20 hk12
  have dj27 : Dj (lp + 1) kr12 := Dj.app (dj13) ql21 hk12
  have dj28 : Dj (Bs + 1) kr12 := Dj.app (dj14) ql22 hk12
  have nx30 : Nx kr H5.size kr12 := Nx.tr (nx15) hk12 hlm1.size
  replace it := it.upL hs12 (DL.cons dj4.symm (DL.cons dj5.symm (DL.o dj12)))
  replace hlm1 := hlm1.trL hs12 (MIL.cons (MI.r nx_hlm1_hl) (MIL.cons (MI.r nx_hlm1_hB) (MIL.o (MI.r nx15))))
  have hz4 := hs12.size
  have hle_ow := ow.le
  refine LRI.v (Y.not rfl rfl) (by intro c e; cases e) (Wd.u rfl) rfl rfl ?_
  refine LRI.nil ?_
  refine hK8 _ _ ?_
  refine CW.cond_f rfl ?_
  refine CW.skip (hK6 _ _ ?_)
  have hdn2 : (dn ++ [x]).Nodup ∧ ∀ k ∈ dn ++ [x], k ∈ mm.map (·.1) := by
   refine ⟨?_, fun k hk => ?_⟩
   · rw [List.nodup_append]
     exact ⟨hdn.1, by simp, fun a ha b hb e => by simp only [List.mem_singleton] at hb; subst hb; subst e; exact hnd ha⟩
   · rcases List.mem_append.1 hk with hk | hk
     · exact hdn.2 k hk
     · rw [List.mem_singleton.1 hk]; exact List.mem_map.2 ⟨_, hxy, rfl⟩
  have hdl2 := nodup_le hdn2.1 hdn2.2
  rw [List.length_append, List.length_map, List.length_singleton] at hdl2
  refine QN.sub (hN3 (dn ++ [x], vr12, kr12) _ ?_ ?_) ⟨rfl, rfl, trivial⟩
  · exact ⟨it, hl, hB, ow, hdn2, nx30, dj26, dj27, dj28, hlm1⟩
  · simp only [List.length_append, List.length_singleton]; omega
 ·
  obtain ⟨hall, hdq⟩ := hF6 c7
  refine CW.exit (hE5 (.exit 0) nofun _ _ (hE3 (.exit 0) nofun _ _ (hX2 _ _ ?_)))
  refine hret .normal (.inl rfl) _ _ _ (res0 rfl) ?_
  exact ⟨vr3, kr3, dn, rfl, hl, hB, ow, nx11, ⟨hdn.1, fun k => ⟨hdn.2 k, fun h => by obtain ⟨p, hp, rfl⟩ := List.mem_map.1 h; exact hall p hp⟩⟩, hm0⟩
theorem apseqR (bx mb : Nat) (fv : Ide → Value) (mm : List (Pth × Ide)) (w0 : World) (H0 : Heap) (hx : Var 130 H0 bx [.map (some mb)]) (hso : Mp H0 Str fv mb mm) (hmm : mm.length ≤ 1099511627776) :
 Ct Tryz.prog w0 196 #[.slice none 0 0, .func (.func 135) #[] #[.pointer (some ⟨bx, 0, none⟩)]] H0 (fun r H2 => ∃ s : SV, ∃ k : Nat, ∃ out : List Pth, r = s.v ∧ (Ow k 9 H2 fS 1 s.v out) ∧ (Nx 0 H0.size k) ∧ (out.Nodup ∧ ∀ k, k ∈ out ↔ k ∈ mm.map (·.1)) ∧ Nw H0 H2) := by
 intro w ha
 refine callsIn_wide.1 (callsIn_of_wp_marks (n := 0) Tryz.func196 rfl trivial ?_)
 have hf0 := Fr.start (n := Tryz.f196.ntmps) (args := [.slice none 0 0, .func (.func 135) #[] #[.pointer (some ⟨bx, 0, none⟩)]]) (Nat.le_of_ble_eq_true rfl)
 refine wpIn_seq (wpIn_wide.2 ?_)
 refine (CW.region (w0 := w0) (H := H0) (n := Tryz.f196.ntmps) (l := argL [.slice none 0 0, .func (.func 135) #[] #[.pointer (some ⟨bx, 0, none⟩)]] 0) ?_) _ w hf0 ha
 refine LR.z1 (Z.boxv1 rfl rfl rfl) fun v2 H1 r2 => ?_
 obtain ⟨rfl, hB, hs1, ob1, hH1⟩ := r2
 have hz1 : H1.size = H0.size + 1 := by rw [hH1]; simp
 have hxl := hx.lt; have hsl := hso.lt
 replace hx := hx.nw hs1; replace hso := hso.nw hs1
 refine LR.a1 ?_
 refine LR.nil (fun a1 w1 hf1 ha1 => ?_)
 show (Code.seq _ _).wpIn Fence.wide 0 _ _ a1 w1
 refine wpIn_seq (wpIn_seq (wpIn_wide.2 ?_))
 refine (CW.region (w0 := w0) (H := H1) ?_) a1 w1 hf1 ha1
 refine LR.m1 ?_
 refine LR.nil (fun a2 w2 hf2 ha2 => ?_)
 show (Code.block _ _).wpIn Fence.wide 0 _ _ a2 w2
 refine wpIn_block (wpIn_rangeFunc (fun fn _ => ?_))
 obtain ⟨rc, hrc⟩ : ∃ rc : Loop, rc = { state := .ready, pending := none, fn, tmps := a2.tmps, params := #[7], assign := asOf (rfOf (Tryz.f196.body.getD .skip)), body := boOf (rfOf (Tryz.f196.body.getD .skip)), defers := w2.heap.size } := ⟨_, rfl⟩
 have hst : (Instr.enterLoop fn a2.tmps #[7] (asOf (rfOf (Tryz.f196.body.getD .skip))) (boOf (rfOf (Tryz.f196.body.getD .skip))) none).run Tryz.prog w2 = .ok (w2.heap.size + 1, [{ target := .collected w2.heap.size, args := #[] }]) ((w2.alloc (.deferred (some []))).alloc (.loop rc)) := by
  rw [hrc]; exact run_enterLoop_outer fn a2.tmps #[7] _ _
 have ha3 : At w0 ((H1.push (.deferred (some []))).push (.loop rc)) ((w2.alloc (.deferred (some []))).alloc (.loop rc)) := (ha2.alloc _).alloc _
 obtain ⟨w3, hw3⟩ : ∃ w3, w3 = (w2.alloc (.deferred (some []))).alloc (.loop rc) := ⟨_, rfl⟩
 rw [← hw3] at hst ha3
 obtain ⟨H3, hH3⟩ : ∃ H3, H3 = (H1.push (.deferred (some []))).push (.loop rc) := ⟨_, rfl⟩
 rw [← hH3] at ha3
 have hz3 : H3.size = H1.size + 2 := by rw [hH3]; simp
 have hw2 : w2.heap.size = H1.size := by rw [ha2.heap]
 have hs3 : Nw H1 H3 := by rw [hH3]; exact (Nw.pu _ _).tr (Nw.pu _ _)
 replace hx := hx.nw hs3; replace hso := hso.nw hs3; replace hB := hB.nw hs3
 have hD : Dfr H3 H1.size := ⟨by rw [hH3, Array.getElem?_push, if_neg (by simp)]; exact Array.getElem?_push_size⟩
 have hl : Lpr H3 (H1.size + 1) rc := ⟨by
  have h9 := Array.getElem?_push_size (xs := H1.push (.deferred (some []))) (x := Obj.loop rc)
  rw [Array.size_push, ← hH3] at h9
  exact h9⟩
 have hap : ApR rc H0.size := by
  subst hrc
  exact ⟨rfl, rfl, rfl, rfl, rfl, ⟨rfl, hf2.size, fun t v e => (hf2.sub (l' := [(2, .pointer (some ⟨H0.size, 0, none⟩))]) ⟨rfl, trivial⟩).get t v e⟩⟩
 have hyi : ∀ w, (callFunc 135 #[.func (.yield (H1.size + 1)) #[] #[], .pointer (some ⟨bx, 0, none⟩)]).run Tryz.prog w = .ok (.enter 135 #[.func (.yield (H1.size + 1)) #[] #[], .pointer (some ⟨bx, 0, none⟩)]) w := fun w => enters_of Tryz.func135 (by kernel_rfl) rfl _ w
 refine ⟨w2.heap.size + 1, [{ target := .collected w2.heap.size, args := #[] }], w3, { target := .fn (.func 135) #[.pointer (some ⟨bx, 0, none⟩)], args := #[.func (.yield (H1.size + 1)) #[] #[]] }, w3, 135, #[.func (.yield (H1.size + 1)) #[] #[], .pointer (some ⟨bx, 0, none⟩)], w3, hst, ?_, fun _ _ => trivial, ?_, fun h => (by cases h), ?_⟩
 · have h6 := hf2.get 6 (.func (.func 135) #[] #[.pointer (some ⟨bx, 0, none⟩)]) rfl
   rw [hw2]
   simp [resolve, rangeCall, Deferred.ofValue, Act.eval, h6]
 · exact hyi _
 refine callsIn_wide.2 ((keys1R rc (H1.size + 1) H0.size bx mb H1.size 0 (.slice none 0 0) fv mm w0 H3 hx hso hD hl hB (Ow.nil fS_len fS_one) hap hmm (Dj.of (by omega)) Dj.z Dj.z (Dj.of (by omega)) (Dj.of (by omega)) Dj.z (Dj.of (by omega)) (Dj.of (by omega)) Dj.z (Dj.of (by omega)) (Dj.of (by omega)) Dj.z _ ha3).mono ?_)
 rintro e w4 ⟨r4, H4, rfl, ha4, vr2, k2, out, rfl, hl4, hB4, ow4, hk4, hout, hm4⟩
 have hD4 : Dfr H4 H1.size := hD.upL hm4 (DL.cons (Dj.of (by omega)) (DL.cons (Dj.of (by omega)) (DL.o Dj.z)))
 have hlw : w4.heap[w2.heap.size + 1]? = some (.loop rc) := by rw [ha4.heap, hw2]; exact hl4.at_
 have hrp : rc.pending = none := hap.pe
 have hend := run_endLoop (P := Tryz.prog) hlw (by rw [hap.st]; simp)
 rw [hrp] at hend
 refine ⟨none, _, hend, ?_⟩
 have hs5 : Mo (fun c => c = H1.size + 1) H4 (H4.setIfInBounds (H1.size + 1) (.loop { rc with state := .exhausted })) := mo_set _
 have ha5 : At w0 (H4.setIfInBounds (H1.size + 1) (.loop { rc with state := .exhausted })) (w4.putObj (w2.heap.size + 1) (.loop { rc with state := .exhausted })) := by
  unfold World.putObj
  rw [ha4.heap, hw2]
  exact ha4.set
 rw [hrp] at hs5 ha5
 obtain ⟨w5, hw5⟩ : ∃ w5, w5 = w4.putObj (w2.heap.size + 1) (.loop { rc with state := .exhausted, pending := none }) := ⟨_, rfl⟩
 obtain ⟨H5, hH5⟩ : ∃ H5, H5 = H4.setIfInBounds (H1.size + 1) (.loop { rc with state := .exhausted, pending := none }) := ⟨_, rfl⟩
 rw [← hw5] at ha5
 rw [← hH5] at hs5 ha5
 rw [← hw5]
 have hz4 := hm4.size
 have hz5 := hs5.size
 have hs5' := hs5.md1
 have dk : ∀ c, c + 1 ≤ H3.size → Dj k2 (c + 1) := fun c hc q h1 h2 => by unfold Nx at hk4; omega
 replace hB4 := hB4.upL hs5' (DL.cons (Dj.of (by omega)) DL.nil)
 replace ow4 := ow4.upL hs5' (DL.cons (dk _ (by omega)) DL.nil)
 replace hD4 := hD4.upL hs5' (DL.cons (Dj.of (by omega)) DL.nil)
 have hm0 : Mo (Ms []) H0 H5 := by
  have q0 := ((Mo.refl (S := Ms []) H0).trN hs1).trN hs3
  have q1 := q0.trL hm4 (MIL.cons (MI.new (by omega)) (MIL.cons (MI.new (Nat.le_refl _)) (MIL.cons MI.z MIL.nil)))
  exact q1.trL hs5' (MIL.cons (MI.new (by omega)) MIL.nil)
 show (Code.seq _ _).wpIn Fence.wide 0 _ _ _ w5
 refine wpIn_seq (wpIn_region_lit ?_)
 refine LRD.v (w0 := w0) (H := H5) (Y.load1 hB4.pt rfl a'69 rfl) (by intro c e; cases e) (Wd.u rfl) rfl rfl ?_ a2 w5 hf2 ha5
 refine LRD.v (w0 := w0) (H := H5) (Y.assign rfl rfl) (by intro c e; cases e) (Wd.u rfl) rfl rfl ?_
 intro a6 w6 hf6 ha6
 show Code.ret.wpIn Fence.wide 0 _ _ _ w6
 refine wpIn_ret ?_
 show LeavesInM Fence.wide 0 _ _ a6.tmps _ ([{ target := .collected w2.heap.size, args := #[] }] ++ a2.defers) .returning w6
 rw [hf2.defers, List.append_nil]
 have hDw : w6.heap[w2.heap.size]? = some (.deferred (some [])) := by rw [ha6.heap, hw2]; exact hD4.at_
 refine ⟨by simp, .inl ⟨_, _, rfl, run_takeDeferred (P := Tryz.prog) hDw, ?_⟩⟩
 have hs7 : Mo (fun c => c = H1.size) H5 (H5.setIfInBounds H1.size (.deferred none)) := mo_set _
 have ha7 : At w0 (H5.setIfInBounds H1.size (.deferred none)) (w6.putObj w2.heap.size (.deferred none)) := by
  unfold World.putObj
  rw [ha6.heap, hw2]
  exact ha6.set
 have hs7' := hs7.md1
 obtain ⟨s, hs⟩ : ∃ s : SV, vr2 = s.v := ⟨toSV vr2, ow4.sv.symm⟩
 refine ⟨vr2, res1 rfl rfl _ _ hf6 ha7, vr2, _, rfl, ha7, s, k2, out, hs, ?_, ?_, hout, ?_⟩
 · rw [← hs]; exact ow4.upL hs7' (DL.cons (dk _ (by omega)) DL.nil)
 · unfold Nx at hk4 ⊢; omega
 · exact (hm0.trL hs7' (MIL.cons (MI.new (by omega)) MIL.nil)).nil
theorem collectR (bx mb : Nat) (fv : Ide → Value) (mm : List (Pth × Ide)) (w0 : World) (H0 : Heap)
 (hx : Var 130 H0 bx [.map (some mb)]) (hso : Mp H0 Str fv mb mm) (hmm : mm.length ≤ 1099511627776) :
 Ct Tryz.prog w0 133 #[.func (.func 135) #[] #[.pointer (some ⟨bx, 0, none⟩)]] H0 (fun r H2 => ∃ s : SV, ∃ k : Nat, ∃ out : List Pth, r = s.v ∧ (Ow k 9 H2 fS 1 s.v out) ∧ (Nx 0 H0.size k) ∧ (out.Nodup ∧ ∀ k, k ∈ out ↔ k ∈ mm.map (·.1)) ∧ Nw H0 H2) := by
 refine Ct.enter (args := [.func (.func 135) #[] #[.pointer (some ⟨bx, 0, none⟩)]]) Tryz.func133 rfl rfl rfl ?_
 intro Q0 hret
 have hm0 : Nw H0 H0 := Mo.refl _ _
 refine CW.s1 (fun hK1 => CW.region ?_)
 refine LR.a1 (LR.nil (hK1 _ _ ?_))
 refine CW.s1 (fun hK2 => CW.region ?_)
 refine LR.m1 ?_
 refine LR.call rfl c'196 rfl (Wd.u rfl) rfl rfl (apseqR bx mb fv mm w0 _ hx hso hmm) (fun v4 H4 r4 => ?_)
 obtain ⟨s4, k4, out4, rfl, ow4, hk4, hout4, hs4⟩ := r4
 have nx3 : Nx 0 H0.size k4 := Nx.tr (Nx.refl 0 _) hk4 hm0.size
 replace hm0 := hm0.tr hs4
 refine LR.a1 (LR.nil (hK2 _ _ ?_))
 refine CW.ret (hret .ret (.inr rfl) _ _ _ (res1 rfl rfl) ?_)
 exact ⟨s4, k4, out4, rfl, ow4, nx3, hout4, hm0⟩
theorem keysR (mb : Nat) (w0 : World) (H0 : Heap)
 :
 Ct Tryz.prog w0 58 #[.map (some mb)] H0 (fun r H2 => ∃ bx : Nat, r = .func (.func 135) #[] #[.pointer (some ⟨bx, 0, none⟩)] ∧ (Var 130 H2 bx [.map (some mb)]) ∧ (Nx 0 H0.size (bx + 1)) ∧ Nw H0 H2) := by
 refine Ct.enter (args := [.map (some mb)]) Tryz.func58 rfl rfl rfl ?_
 intro Q0 hret
 have hm0 : Nw H0 H0 := Mo.refl _ _
 refine CW.s1 (fun hK1 => CW.region ?_)
 refine LR.z1 (Z.boxv1 rfl rfl (rfl)) fun v1 H1 r1 => ?_
 obtain ⟨rfl, hx, hs1, ob1, hH1⟩ := r1
 replace hm0 := hm0.tr hs1
 replace hx : Var 130 H1 H0.size ([.map (some mb)]) := hx
 refine LR.a1 (LR.nil (hK1 _ _ ?_))
 refine CW.s1 (fun hK2 => CW.region ?_)
 refine LR.v1 (Y.makeFunc rfl rfl) ?_
 refine LR.a1 (LR.nil (hK2 _ _ ?_))
 refine CW.ret (hret .ret (.inr rfl) _ _ _ (res1 rfl rfl) ?_)
 exact ⟨_, rfl, hx, Nx.new (Nat.le_refl _), hm0⟩
theorem sortedR (bx mb : Nat) (fv : Ide → Value) (mm : List (Pth × Ide)) (w0 : World) (H0 : Heap)
 (hx : Var 130 H0 bx [.map (some mb)]) (hso : Mp H0 Str fv mb mm) (hmm : mm.length ≤ 1099511627776) :
 Ct Tryz.prog w0 57 #[.func (.func 135) #[] #[.pointer (some ⟨bx, 0, none⟩)]] H0 (fun r H2 => ∃ s : SV, ∃ k : Nat, ∃ out : List Pth, r = s.v ∧ (Ow k 9 H2 fS 1 s.v out) ∧ (Nx 0 H0.size k) ∧ (Rise out ∧ ∀ k, k ∈ out ↔ k ∈ mm.map (·.1)) ∧ Nw H0 H2) := by
 refine Ct.enter (args := [.func (.func 135) #[] #[.pointer (some ⟨bx, 0, none⟩)]]) Tryz.func57 rfl rfl rfl ?_
 intro Q0 hret
 have hm0 : Nw H0 H0 := Mo.refl _ _
 have hlt_hx := hx.lt
 have hlt_hso := hso.lt
 refine CW.s1 (fun hK1 => CW.region ?_)
 refine LR.a1 (LR.nil (hK1 _ _ ?_))
 refine CW.s1 (fun hK2 => CW.region ?_)
 refine LR.m1 ?_
 refine LR.call rfl c'133 rfl (Wd.u rfl) rfl rfl (collectR bx mb fv mm w0 _ hx hso hmm) (fun v5 H5 r5 => ?_)
 obtain ⟨s5, k5, out5, rfl, ow, hk5, hout5, hs5⟩ := r5
 have nx3 : Nx 0 H0.size k5 := Nx.tr (Nx.refl 0 _) hk5 hm0.size
 replace hm0 := hm0.tr hs5
 have hz1 := hs5.size
 have hle_ow := ow.le
 have hol := nodup_le hout5.1 (fun k hk => (hout5.2 k).1 hk)
 rw [List.length_map] at hol
 refine LR.a1 (LR.nil (hK2 _ _ ?_))
 refine CW.s1 (fun hK3 => CW.region ?_)
 refine LR.m1 ?_
 refine LR.call rfl c'134 rfl (Wd.u rfl) rfl rfl (sortS_ct k5 _ out5 w0 _ ow (by omega)) (fun v7 H7 r7 => ?_)
 obtain ⟨l2, k2, rfl, ow, hk7, hp7, hs7⟩ := r7
 have nx9 : Nx 0 H0.size k2 := Nx.tr (nx3) hk7 hm0.size
 replace hm0 := hm0.tq hs7 (MIL.o (MI.q nx3))
 refine LR.nil (hK3 _ _ (CW.s1 (fun hK4 => CW.region ?_)))
 refine LR.m1 ?_
 refine LR.a1 (LR.nil (hK4 _ _ ?_))
 refine CW.ret (hret .ret (.inr rfl) _ _ _ (res1 rfl rfl) ?_)
 obtain ⟨hp1, hp2⟩ := sorted_rise hout5.1 hp7
 exact ⟨s5, k2, l2, rfl, ow, nx9, ⟨hp1, fun k => by rw [hp2.mem_iff, hout5.2]⟩, hm0⟩
end Go.Proofs.YtfjmpninmdjcaaaGreatDoor.RefC
