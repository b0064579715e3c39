/-
  Parse, and the document's Parse and Hex; Less.
-/
import Derived.Test.YtegfnfhdgbcjbaaSumK
namespace Go.Proofs.Ytegfnfhdgbcjbaa.SumL
open Go.Proofs.Ytegfnfhdgbcjbaa.E Go.RowKit Go.Proofs.Ytegfnfhdgbcjbaa.SumA Go.Proofs.Ytegfnfhdgbcjbaa.SumB Go.Proofs.Ytegfnfhdgbcjbaa.SumC Go.Proofs.Ytegfnfhdgbcjbaa.SumD Go.Proofs.Ytegfnfhdgbcjbaa.SumE Go.Proofs.Ytegfnfhdgbcjbaa.SumF Go.Proofs.Ytegfnfhdgbcjbaa.SumG Go.Proofs.Ytegfnfhdgbcjbaa.SumH Go.Proofs.Ytegfnfhdgbcjbaa.SumI Go.Proofs.Ytegfnfhdgbcjbaa.SumK
set_option maxRecDepth 20000
set_option linter.unusedVariables false
set_option linter.unusedSimpArgs false
set_option linter.unusedSectionVars false

theorem Z32_len : Z32.length = 32 := rfl
theorem shl0 : ∀ x : UInt8, shlw_u8 0 4 ||| x = x := all_u8 (by decide +kernel)


/-- the row behind k digits -/
def RI (s o : List UInt8) (k : Nat) : Prop := o.take (k / 2) = (pid s).take (k / 2) ∧ (k % 2 = 0 → ∀ j, k / 2 ≤ j → o.getD j 0 = 0) ∧ (k % 2 = 1 → o.getD (k / 2) 0 = digw (s.getD (k - 1) 0) ∧ ∀ j, k / 2 + 1 ≤ j → o.getD j 0 = 0)
theorem getD_set_ne {o : List UInt8} {i j : Nat} {x : UInt8} (h : i ≠ j) : (o.set i x).getD j 0 = o.getD j 0 := by simp [List.getD, List.getElem?_set_ne h]
theorem getD_set_eq {o : List UInt8} {i : Nat} {x : UInt8} (h : i < o.length) : (o.set i x).getD i 0 = x := by simp [List.getD, List.getElem?_set_self, h]
theorem RI.next {s o : List UInt8} {k : Nat} (h : RI s o k) (ho : o.length = 32) (hk : k < 64) : RI s (o.set (k / 2) (shlw_u8 (o.getD (k / 2) 0) 4 ||| digw (s.getD k 0))) (k + 1) := by
  obtain ⟨h1, h2, h3⟩ := h
  rcases Nat.mod_two_eq_zero_or_one k with hm | hm
  · have h2 := h2 hm
    refine ⟨?_, fun h => by omega, fun _ => ⟨?_, fun j hj => ?_⟩⟩
    · rw [show (k + 1) / 2 = k / 2 by omega, List.take_set_of_le (Nat.le_refl _)]; exact h1
    · rw [show (k + 1) / 2 = k / 2 by omega, getD_set_eq (by omega), h2 _ (Nat.le_refl _), shl0]; rfl
    · rw [getD_set_ne (by omega)]; exact h2 j (by omega)
  · obtain ⟨h4, h5⟩ := h3 hm
    refine ⟨?_, fun _ j hj => ?_, fun h => by omega⟩
    · rw [show (k + 1) / 2 = k / 2 + 1 by omega]
      refine take8_succ o _ (k / 2) _ h1 (by omega) ?_
      rw [pid_get s _ (by omega), h4, show 2 * (k / 2) + 1 = k by omega, show 2 * (k / 2) = k - 1 by omega]
    · rw [getD_set_ne (by omega)]; exact h5 j (by omega)

theorem cmp_ct (u v : Value) (a b : List UInt8) (w0 : World) (H0 : Heap)
    (ha : RdT H0 fB 1 u a) (hb : RdT H0 fB 1 v b) :
    Ct Try.prog w0 23 #[u, v] H0 (fun r H2 => r = .int .i64 (Lib.compareBytes a b) ∧ Mo (fun c => False) H0 H2) := by
  refine Ct.enter (args := [u, v]) Try.func23 rfl rfl rfl ?_
  intro Q0 hret
  have hm0 : Mo (fun c => False) H0 H0 := Mo.refl _ _
  refine CW.seq (fun K1 hK1 hE1 => ?_)
  refine CW.region ?_
  refine LR.v (Y.assign rfl rfl) (Wd.u rfl) rfl rfl ?_
  refine LR.nil ?_
  refine hK1 _ _ ?_
  refine CW.seq (fun K2 hK2 hE2 => ?_)
  refine CW.region ?_
  refine LR.v (Y.move rfl rfl) (Wd.u rfl) rfl rfl ?_
  refine LR.v (Y.move rfl rfl) (Wd.u rfl) rfl rfl ?_
  refine LR.v (Y.compare ha hb rfl Try.func42 (by kernel_rfl) (by kernel_rfl) (by kernel_rfl) (by kernel_rfl) rfl) (Wd.u rfl) rfl rfl ?_
  refine LR.v (Y.assign rfl rfl) (Wd.u rfl) rfl rfl ?_
  refine LR.nil ?_
  refine hK2 _ _ ?_
  refine CW.ret (hret .ret (.inr rfl) _ _ _ (res1 rfl rfl) ?_)
  exact ⟨rfl, hm0⟩

theorem less_ct (a b : List UInt8) (w0 : World) (H0 : Heap)
    (ha : a.length = 32) (hb : b.length = 32) :
    Ct Try.prog w0 54 #[idV a, idV b] H0 (fun r H2 => r = .bool (Op.bytesLess a b) ∧ Mo (fun c => False) H0 H2) := by
  refine Ct.enter (args := [idV a, idV b]) Try.func54 rfl rfl rfl ?_
  intro Q0 hret
  have hm0 : Mo (fun c => False) H0 H0 := Mo.refl _ _
  refine CW.seq (fun K1 hK1 hE1 => ?_)
  refine CW.region ?_
  refine LR.z (Z.boxv rfl rfl) (Wd.u rfl) rfl rfl (fun v2 H2 r2 => ?_)
  obtain ⟨rfl, va2, hs2, ob2, hH2⟩ := r2
  have hzs2 : H2.size = H0.size + 1 := by rw [hH2]; simp
  replace hm0 := hm0.trans hs2 (fun b hb0 hb1 => hb1) (fun b hb0 hb1 => hb1.elim)
  have hz1 := hs2.size
  have hlt_va2 := va2.lt
  replace va2 : Var 25 H2 H0.size (a.map V8) := va2
  refine LR.z (Z.boxv rfl rfl) (Wd.u rfl) rfl rfl (fun v3 H3 r3 => ?_)
  obtain ⟨rfl, va3, hs3, ob3, hH3⟩ := r3
  have hzs3 : H3.size = H2.size + 1 := by rw [hH3]; simp
  replace hm0 := hm0.trans hs3 (fun b hb0 hb1 => hb1) (fun b hb0 hb1 => hb1.elim)
  replace va2 := va2.nw hs3
  have hz2 := hs3.size
  have hlt_va3 := va3.lt
  replace va3 : Var 25 H3 H2.size (b.map V8) := va3
  refine LR.v (Y.assign rfl rfl) (Wd.u rfl) rfl rfl ?_
  refine LR.nil ?_
  refine hK1 _ _ ?_
  refine CW.seq (fun K2 hK2 hE2 => ?_)
  refine CW.region_tail 2 rfl (by kernel_rfl) (fun T1 hT1 => ?_)
  refine LR.e (g := fun v => v) (Y.sliceArrE (F := fun c => c = H0.size) (f := fB) (xs := a) va2.pt rfl va2.lt (ha) (fun i x h => ⟨by simp [h], rfl⟩) (0) (32) rfl (fun w => .inl (Try.runUnderlying25 w)) Try.sizeOf5 rfl (.inl ⟨rfl, rfl⟩) (.inl ⟨rfl, rfl⟩) (by omega) (by omega) (by decide)) (Wd.u rfl) rfl rfl (fun v5 rd5 => ?_)
  rw [List.drop_zero, List.take_of_length_le (by omega)] at rd5
  refine LR.e (g := fun v => v) (Y.sliceArrE (F := fun c => c = H2.size) (f := fB) (xs := b) va3.pt rfl va3.lt (hb) (fun i x h => ⟨by simp [h], rfl⟩) (0) (32) rfl (fun w => .inl (Try.runUnderlying25 w)) Try.sizeOf5 rfl (.inl ⟨rfl, rfl⟩) (.inl ⟨rfl, rfl⟩) (by omega) (by omega) (by decide)) (Wd.u rfl) rfl rfl (fun v6 rd6 => ?_)
  rw [List.drop_zero, List.take_of_length_le (by omega)] at rd6
  refine LR.nil (hT1 _ ?_)
  -- call bytes.Compare
  refine LR.call rfl Try.call23 rfl (Wd.u rfl) rfl rfl (cmp_ct _ _ a b w0 _ rd5.any rd6.any) (fun v7 H7 r7 => ?_)
  obtain ⟨rfl, hs7⟩ := r7
  replace hm0 := hm0.trans hs7 (fun b hb0 hb1 => hb1) (fun b hb0 hb1 => hb1.elim)
  replace va2 := va2.nw hs7
  replace va3 := va3.nw hs7
  replace rd5 := rd5.nw hs7
  replace rd6 := rd6.nw hs7
  have hz3 := hs7.size
  refine LR.v (Y.cast (v2 := .bool (Op.bytesLess a b)) (Y.lss rfl rfl rfl) (by congr 1; rw [Bool.eq_iff_iff]; simp [cmp_less])) (Wd.u rfl) rfl rfl ?_
  refine LR.v (Y.assign rfl rfl) (Wd.u rfl) rfl rfl ?_
  refine LR.nil ?_
  refine hK2 _ _ ?_
  refine CW.ret (hret .ret (.inr rfl) _ _ _ (res1 rfl rfl) ?_)
  exact ⟨rfl, hm0⟩

end Go.Proofs.Ytegfnfhdgbcjbaa.SumL
