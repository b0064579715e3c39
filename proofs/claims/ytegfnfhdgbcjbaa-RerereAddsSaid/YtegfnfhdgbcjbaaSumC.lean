/-
  One block of the sum, in memory.
-/
import Derived.Test.YtegfnfhdgbcjbaaSumB
namespace Go.Proofs.Ytegfnfhdgbcjbaa.SumC
open Go.Proofs.Ytegfnfhdgbcjbaa.E Go.RowKit Go.Proofs.Ytegfnfhdgbcjbaa.SumA Go.Proofs.Ytegfnfhdgbcjbaa.SumB
set_option maxRecDepth 20000
set_option linter.unusedVariables false
set_option linter.unusedSimpArgs false
set_option linter.unusedSectionVars false

theorem map_get (w : List UInt32) (j : Nat) (h : j < w.length) : (w.map V32)[j]? = some (V32 (w.getD j 0)) := by simp [h]
theorem map_set (w : List UInt32) (j : Nat) (x : UInt32) : (w.map V32).set (0 + j) (V32 x) = (w.set j x).map V32 := by rw [Nat.zero_add, List.map_set]
theorem take_set_succ {α : Type} (w : List α) (j : Nat) (x : α) (h : j < w.length) : (w.set j x).take (j + 1) = w.take j ++ [x] := by
  rw [List.take_succ_eq_append_getElem (by simpa using h), List.take_set]; rw [List.set_eq_of_length_le (by simp; omega)]; simp
theorem getD_take (w : List UInt32) (j k : Nat) (h : j < k) : (w.take k).getD j 0 = w.getD j 0 := by
  simp [List.getD, List.getElem?_take, h]
theorem first16_succ (b : List UInt8) (n : Nat) : first16 b (n + 1) = first16 b n ++ [word4 (b.getD (4 * n) 0) (b.getD (4 * n + 1) 0) (b.getD (4 * n + 2) 0) (b.getD (4 * n + 3) 0)] := by
  unfold first16; rw [List.range_succ, List.map_append]; rfl
def nxt (w : List UInt32) (i : Nat) : UInt32 := w.getD (i - 16) 0 + (rotr (w.getD (i - 15) 0) 7 ^^^ rotr (w.getD (i - 15) 0) 18 ^^^ shrw_u32 (w.getD (i - 15) 0) 3) + w.getD (i - 7) 0 + (rotr (w.getD (i - 2) 0) 17 ^^^ rotr (w.getD (i - 2) 0) 19 ^^^ shrw_u32 (w.getD (i - 2) 0) 10)
theorem grow_take (w : List UInt32) (i : Nat) (h0 : 16 ≤ i) (h : i ≤ w.length) : grow (w.take i) = w.take i ++ [nxt w i] := by
  unfold grow nxt
  have hl : (w.take i).length = i := by simp; omega
  rw [hl, getD_take w (i - 16) i (by omega), getD_take w (i - 15) i (by omega), getD_take w (i - 7) i (by omega), getD_take w (i - 2) i (by omega)]
/-- the cells of a sum under way -/
abbrev hc (s : List UInt32) (wt : List UInt8) (n : Nat) (al : UInt64) : List Value := s.map V32 ++ wt.map V8 ++ [.int .i64 n, .int .u64 al.toNat]
theorem hc_len {s : List UInt32} {wt : List UInt8} {n : Nat} {al : UInt64} (hs : s.length = 8) (hw : wt.length = 64) : (hc s wt n al).length = 74 := by simp [hs, hw]
theorem hc_wait {s : List UInt32} {wt : List UInt8} {n : Nat} {al : UInt64} (hs : s.length = 8) (i : Nat) (x : UInt8) (h : wt[i]? = some x) : ((hc s wt n al).drop 8)[i]? = (fB x)[0]? ∧ (fB x).length = 1 := by
  refine ⟨?_, rfl⟩
  have hi := (List.getElem?_eq_some_iff.1 h).1
  have : (s.map V32).length = 8 := by simpa using hs
  rw [hc, List.append_assoc, List.drop_left' this, List.getElem?_append_left (by simpa using hi)]
  simp [h]
theorem hc_n {s : List UInt32} {wt : List UInt8} {n : Nat} {al : UInt64} (hs : s.length = 8) (hw : wt.length = 64) : (hc s wt n al)[72]? = some (.int .i64 n) := by
  rw [hc, List.getElem?_append_right (by simp [hs, hw])]; simp [hs, hw]
theorem hc_all {s : List UInt32} {wt : List UInt8} {n : Nat} {al : UInt64} (hs : s.length = 8) (hw : wt.length = 64) : (hc s wt n al)[73]? = some (.int .u64 al.toNat) := by
  rw [hc, List.getElem?_append_right (by simp [hs, hw])]; simp [hs, hw]
theorem hc_set_n {s : List UInt32} {wt : List UInt8} {n m : Nat} {al : UInt64} (hs : s.length = 8) (hw : wt.length = 64) : (hc s wt n al).set 72 (.int .i64 m) = hc s wt m al := by
  rw [hc, List.set_append_right _ _ (by simp [hs, hw])]; simp [hs, hw]
theorem hc_set_all {s : List UInt32} {wt : List UInt8} {n : Nat} {al be : UInt64} (hs : s.length = 8) (hw : wt.length = 64) : (hc s wt n al).set 73 (.int .u64 be.toNat) = hc s wt n be := by
  rw [hc, List.set_append_right _ _ (by simp [hs, hw])]; simp [hs, hw]
theorem hc_state {s : List UInt32} {wt : List UInt8} {n : Nat} {al : UInt64} (i : Nat) (hi : i < s.length) : (hc s wt n al)[i]? = some (V32 (s.getD i 0)) := by
  rw [hc, List.append_assoc, List.getElem?_append_left (by simpa using hi)]; simp [hi]
theorem hc_set_state {s : List UInt32} {wt : List UInt8} {n : Nat} {al : UInt64} (i : Nat) (hi : i < s.length) (x : UInt32) : (hc s wt n al).set (0 + i) (V32 x) = hc (s.set i x) wt n al := by
  rw [hc, List.append_assoc, List.set_append_left _ _ (by simpa using hi), Nat.zero_add, ← List.append_assoc, hc, List.map_set]
theorem word_at (wt : List UInt8) (i : Nat) (h : wt.length = 64) (hi : i < 16) (hl : 4 ≤ ((wt.take 64).drop (4 * i)).length) : word4 ((wt.take 64).drop (4 * i))[0] ((wt.take 64).drop (4 * i))[1] ((wt.take 64).drop (4 * i))[2] ((wt.take 64).drop (4 * i))[3] = word4 (wt.getD (4 * i) 0) (wt.getD (4 * i + 1) 0) (wt.getD (4 * i + 2) 0) (wt.getD (4 * i + 3) 0) := by
  have : ∀ j, j < 4 → ∀ (h2 : j < ((wt.take 64).drop (4 * i)).length), ((wt.take 64).drop (4 * i))[j] = wt.getD (4 * i + j) 0 := by
    intro j hj h2
    rw [List.getElem_drop, List.getElem_take]
    simp [List.getD, show 4 * i + j < wt.length by omega]
  rw [this 0 (by omega), this 1 (by omega), this 2 (by omega), this 3 (by omega)]; rfl


def addL (a b : List UInt32) (i : Nat) : List UInt32 := (List.zipWith (· + ·) (a.take i) (b.take i)) ++ a.drop i
theorem addL_len (a b : List UInt32) (i : Nat) (ha : a.length = 8) (hb : b.length = 8) (hi : i ≤ 8) : (addL a b i).length = 8 := by simp [addL, ha, hb]; omega
theorem addL_get (a b : List UInt32) (i : Nat) (ha : a.length = 8) (hb : b.length = 8) (hi : i < 8) : (addL a b i).getD i 0 = a.getD i 0 := by
  have hl : (List.zipWith (· + ·) (a.take i) (b.take i)).length = i := by simp [ha, hb]; omega
  simp only [addL, List.getD]
  rw [List.getElem?_append_right (by omega), hl, Nat.sub_self, List.getElem?_drop, Nat.add_zero]
theorem addL_succ (a b : List UInt32) (i : Nat) (ha : a.length = 8) (hb : b.length = 8) (hi : i < 8) : (addL a b i).set i (a.getD i 0 + b.getD i 0) = addL a b (i + 1) := by
  have hl : (List.zipWith (· + ·) (a.take i) (b.take i)).length = i := by simp [ha, hb]; omega
  unfold addL
  rw [List.set_append_right _ _ (by omega), hl, Nat.sub_self, List.drop_eq_getElem_cons (show i < a.length by omega), List.set_cons_zero, List.take_succ_eq_append_getElem (show i < a.length by omega), List.take_succ_eq_append_getElem (show i < b.length by omega), List.zipWith_append (by simp; omega), List.append_assoc]
  simp [List.getD, ha, hb, hi]

set_option maxHeartbeats 4000000 in
theorem block_ct (hb : Nat) (st : S8) (wt : List UInt8) (n : Nat) (al : UInt64) (w0 : World) (H0 : Heap)
    (hv : Var 99 H0 hb (hc st.list wt n al)) (hw : wt.length = 64) :
    Ct Try.prog w0 60 #[.pointer (some ⟨hb, 0, none⟩)] H0 (fun r H2 => r = .tuple #[] ∧ Var 99 H2 hb (hc (compress st wt).list wt 0 al) ∧ Mo (fun c => c = hb) H0 H2) := by
  refine Ct.enter (args := [.pointer (some ⟨hb, 0, none⟩)]) Try.func60 rfl rfl rfl ?_
  intro Q0 hret
  have hlt := hv.lt
  have hsl : st.list.length = 8 := rfl
  refine CW.seq (fun K1 hK1 hE1 => ?_)
  refine CW.region ?_
  refine LR.z (Z.allocv rfl Try.zeroValue86) (Wd.u rfl) rfl rfl (fun v2 H2 r2 => ?_)
  obtain ⟨rfl, va2, hs2, ob2, hH2⟩ := r2
  replace hv := hv.nw hs2
  replace va2 : Var 86 H2 H0.size ((List.replicate 64 (0 : UInt32)).map V32) := va2
  have hz2 : H2.size = H0.size + 1 := by rw [hH2]; simp
  refine LR.nil ?_
  refine hK1 _ _ ?_
  refine CW.seq (fun K2 hK2 hE2 => ?_)
  refine CW.seq (fun K3 hK3 hE3 => ?_)
  refine CW.region ?_
  refine LR.v (Y.move rfl rfl) (Wd.u rfl) rfl rfl ?_
  refine LR.nil ?_
  refine hK3 _ _ ?_
  refine CW.block (fun K4 hK4 hX4 hE4 => ?_)
  refine CW.loop (fun (s_ : (Nat) × (List UInt32)) => match s_ with | (i, w) => [(0, .pointer (some ⟨hb, 0, none⟩)), (2, .pointer (some ⟨H0.size, 0, none⟩)), (14, .int .i64 i)])
    (fun (s_ : (Nat) × (List UInt32)) (H : Heap) => match s_ with | (i, w) => i ≤ 16 ∧ w.length = 64 ∧ w.take i = first16 wt i ∧ Var 86 H H0.size (w.map V32) ∧ Mo (fun c => c = H0.size) H2 H)
    (fun (s_ : (Nat) × (List UInt32)) => match s_ with | (i, w) => 16 - i) (0, List.replicate 64 0) ⟨rfl, rfl, rfl, trivial⟩ ?_ ?_
  ·
    exact ⟨by omega, by simp, rfl, va2, Mo.refl _ _⟩
  rintro ⟨i, w⟩ H1 hI1 K5 hN5 hE5
  obtain ⟨hi, hwl, hwt, va2, hm⟩ := hI1
  replace hv := hv.up hm (by omega)
  refine CW.seq (fun K6 hK6 hE6 => ?_)
  refine CW.region ?_
  refine LR.v (Y.lss rfl rfl rfl) (Wd.u rfl) rfl rfl ?_
  refine LR.nil ?_
  refine hK6 _ _ ?_
  refine CW.seq (fun K7 hK7 hE7 => ?_)
  refine CW.condp rfl (fun c15 => ?_) (fun c15 => ?_)
  ·
    refine CW.skip ?_
    refine hK7 _ _ ?_
    refine CW.seq (fun K8 hK8 hE8 => ?_)
    refine CW.block (fun K9 hK9 hX9 hE9 => ?_)
    refine CW.seq (fun K10 hK10 hE10 => ?_)
    refine CW.region ?_
    refine LR.v (Y.move rfl rfl) (Wd.u rfl) rfl rfl ?_
    refine LR.v (Y.assign rfl rfl) (Wd.u rfl) rfl rfl ?_
    refine LR.nil ?_
    refine hK10 _ _ ?_
    refine CW.region ?_
    refine LR.v (Y.move rfl rfl) (Wd.u rfl) rfl rfl ?_
    refine LR.v (Y.move rfl rfl) (Wd.u rfl) rfl rfl ?_
    refine LR.v (Y.nilCheck rfl rfl) (Wd.u rfl) rfl rfl ?_
    refine LR.v (Y.fieldAddr hv.pt rfl Try.runUnderlying99 rfl rfl Try.sizeOf97 (by decide) rfl) (Wd.u rfl) rfl rfl ?_
    refine LR.v (Y.move rfl rfl) (Wd.u rfl) rfl rfl ?_
    refine LR.v (Y.muli rfl rfl rfl (by omega)) (Wd.u rfl) rfl rfl ?_
    refine LR.e (g := fun v => v) (Y.sliceArrE (F := fun c => c = hb) (f := fB) (xs := wt) (hv.pt.drop 8) rfl hv.lt (hw) (fun i x h => hc_wait hsl i x h) (4 * i) (64) rfl (fun w => .inl (Try.runUnderlying97 w)) Try.sizeOf5 rfl (.inr ⟨_, _, _, rfl, rfl, by first | rfl | omega⟩) (.inl ⟨rfl, rfl⟩) (by omega) (by omega) (by decide)) (Wd.u rfl) rfl rfl (fun v23 rd23 => ?_)
    -- call selvage/sum.word
    refine LR.call rfl Try.call66 rfl (Wd.u rfl) rfl rfl (word_ct _ _ w0 H1 rd23.any (by simp; omega)) (fun v24 H24 r24 => ?_)
    obtain ⟨rfl, rfl⟩ := r24
    rw [word_at wt i hw (by omega)]
    refine LR.v (Y.arrAddr va2.pt (i) rfl Try.runUnderlying86 Try.sizeOf85 rfl rfl (by first | rfl | omega) (by first | omega | (simp; omega) | (simp; done))) (Wd.u rfl) rfl rfl ?_
    refine LR.s (S.var1 va2 (0 + (i)) (_) rfl rfl rfl (rfl) Try.sizeOf85 (by simp; omega) (map_set w i _)) (Wd.u rfl) rfl (fun H4_9 r4_9 => ?_)
    obtain ⟨va2, hst⟩ := r4_9
    replace hv := hv.up hst (by omega)
    replace hm := hm.trans hst (fun _ _ e => e) (fun _ _ e => e)
    refine LR.nil ?_
    refine hK9 _ _ ?_
    refine hK8 _ _ ?_
    refine CW.region ?_
    refine LR.v (Y.addi rfl rfl rfl (by omega)) (Wd.u rfl) rfl rfl ?_
    refine LR.v (Y.move rfl rfl) (Wd.u rfl) rfl rfl ?_
    refine LR.nil ?_
    refine QN.sub (hN5 (i + 1, w.set i (word4 (wt.getD (4 * i) 0) (wt.getD (4 * i + 1) 0) (wt.getD (4 * i + 2) 0) (wt.getD (4 * i + 3) 0))) _ ?_ ?_) ⟨rfl, rfl, (iv (by omega)), trivial⟩
    · exact ⟨by omega, by simp [hwl], by rw [take_set_succ _ _ _ (by omega), first16_succ, hwt], va2, hm⟩
    · show 16 - (i + 1) < 16 - i; omega
  ·
    have hi16 : i = 16 := by omega
    subst hi16
    refine CW.exit (hE7 (.exit 0) nofun _ _ (hE5 (.exit 0) nofun _ _ (hX4 _ _ ?_)))
    refine hK2 _ _ ?_
    refine CW.seq (fun K11 hK11 hE11 => ?_)
    refine CW.seq (fun K12 hK12 hE12 => ?_)
    refine CW.region ?_
    refine LR.v (Y.assign rfl rfl) (Wd.u rfl) rfl rfl ?_
    refine LR.nil ?_
    refine hK12 _ _ ?_
    refine CW.block (fun K13 hK13 hX13 hE13 => ?_)
    refine CW.loop (fun (s_ : (Nat) × (List UInt32)) => match s_ with | (i, w) => [(0, .pointer (some ⟨hb, 0, none⟩)), (2, .pointer (some ⟨H0.size, 0, none⟩)), (4, .int .i64 i)])
      (fun (s_ : (Nat) × (List UInt32)) (H : Heap) => match s_ with | (i, w) => 16 ≤ i ∧ i ≤ 64 ∧ w.length = 64 ∧ w.take i = schedL (first16 wt 16) (i - 16) ∧ Var 86 H H0.size (w.map V32) ∧ Mo (fun c => c = H0.size) H1 H)
      (fun (s_ : (Nat) × (List UInt32)) => match s_ with | (i, w) => 64 - i) (16, w) ⟨rfl, rfl, rfl, trivial⟩ ?_ ?_
    ·
      exact ⟨by omega, by omega, hwl, hwt, va2, Mo.refl _ _⟩
    rintro ⟨i, w⟩ HL2 hI2 K14 hN14 hE14
    obtain ⟨hi0, hi, hwl, hwt, va2, hm2⟩ := hI2
    replace hv := hv.up hm2 (by omega)
    refine CW.seq (fun K15 hK15 hE15 => ?_)
    refine CW.seq (fun K16 hK16 hE16 => ?_)
    refine CW.region ?_
    refine LR.v (Y.move rfl rfl) (Wd.u rfl) rfl rfl ?_
    refine LR.v (Y.lss rfl rfl rfl) (Wd.u rfl) rfl rfl ?_
    refine LR.nil ?_
    refine hK16 _ _ ?_
    refine CW.condp rfl (fun c28 => ?_) (fun c28 => ?_)
    ·
      refine CW.skip ?_
      refine hK15 _ _ ?_
      refine CW.seq (fun K17 hK17 hE17 => ?_)
      refine CW.block (fun K18 hK18 hX18 hE18 => ?_)
      refine CW.seq (fun K19 hK19 hE19 => ?_)
      refine CW.region_draw rfl (by kernel_rfl) ?_
      refine LR.v (Y.move rfl rfl) (Wd.u rfl) rfl rfl ?_
      refine LR.v (Y.subi rfl rfl rfl (by omega)) (Wd.u rfl) rfl rfl ?_
      refine LR.v (Y.arrAddr va2.pt (i - 15) rfl Try.runUnderlying86 Try.sizeOf85 rfl rfl (by omega) (by first | omega | (simp; omega) | (simp; done))) (Wd.u rfl) rfl rfl ?_
      refine LR.v (Y.load1 (va2.pt.at (i - 15) (map_get w (i - 15) (by omega))) rfl Try.isAgg85 rfl) (Wd.u rfl) rfl rfl ?_
      refine LR.v (Y.move rfl rfl) (Wd.u rfl) rfl rfl ?_
      refine LR.v (Y.subi rfl rfl rfl (by omega)) (Wd.u rfl) rfl rfl ?_
      refine LR.v (Y.arrAddr va2.pt (i - 2) rfl Try.runUnderlying86 Try.sizeOf85 rfl rfl (by omega) (by first | omega | (simp; omega) | (simp; done))) (Wd.u rfl) rfl rfl ?_
      refine LR.v (Y.load1 (va2.pt.at (i - 2) (map_get w (i - 2) (by omega))) rfl Try.isAgg85 rfl) (Wd.u rfl) rfl rfl ?_
      refine LR.v (Y.assign rfl rfl) (Wd.u rfl) rfl rfl ?_
      refine LR.v (Y.assign rfl rfl) (Wd.u rfl) rfl rfl ?_
      refine LR.nil ?_
      refine hK19 _ _ ?_
      refine CW.region_any (fun Hq => Nw HL2 Hq) [29] rfl ?_
      have hqs := Nw.refl HL2
      refine LH.take 0 (by kernel_rfl) rfl (by kernel_rfl) (by kernel_rfl) (by kernel_rfl) (fun Hq hq => Y.move rfl rfl) (Wd.u rfl) rfl rfl hqs ?_
      refine LH.take 1 (by kernel_rfl) rfl (by kernel_rfl) (by kernel_rfl) (by kernel_rfl) (fun Hq hq => Y.move rfl rfl) (Wd.u rfl) rfl rfl hqs ?_
      refine LH.take 2 (by kernel_rfl) rfl (by kernel_rfl) (by kernel_rfl) (by kernel_rfl) (fun Hq hq => Y.subi rfl rfl rfl (by omega)) (Wd.u rfl) rfl rfl hqs ?_
      refine LH.take 3 (by kernel_rfl) rfl (by kernel_rfl) (by kernel_rfl) (by kernel_rfl) (fun Hq hq => Y.arrAddr (va2.pt.nw hq) (i - 16) rfl Try.runUnderlying86 Try.sizeOf85 rfl rfl (by omega) (by first | omega | (simp; omega) | (simp; done))) (Wd.u rfl) rfl rfl hqs ?_
      refine LH.take 4 (by kernel_rfl) rfl (by kernel_rfl) (by kernel_rfl) (by kernel_rfl) (fun Hq hq => Y.load1 ((va2.pt.at (i - 16) (map_get w (i - 16) (by omega))).nw hq) rfl Try.isAgg85 rfl) (Wd.u rfl) rfl rfl hqs ?_
      refine LH.take 5 (by kernel_rfl) rfl (by kernel_rfl) (by kernel_rfl) (by kernel_rfl) (fun Hq hq => Y.move rfl rfl) (Wd.u rfl) rfl rfl hqs ?_
      refine LH.take 7 (by kernel_rfl) rfl (by kernel_rfl) (by kernel_rfl) (by kernel_rfl) (fun Hq hq => Y.move rfl rfl) (Wd.u rfl) rfl rfl hqs ?_
      refine LH.take 10 (by kernel_rfl) rfl (by kernel_rfl) (by kernel_rfl) (by kernel_rfl) (fun Hq hq => Y.move rfl rfl) (Wd.u rfl) rfl rfl hqs ?_
      refine LH.take 11 (by kernel_rfl) rfl (by kernel_rfl) (by kernel_rfl) (by kernel_rfl) (fun Hq hq => Y.shr_u32 (3) rfl rfl rfl (by first | rfl | omega) (by omega)) (Wd.u rfl) rfl rfl hqs ?_
      refine LH.take 14 (by kernel_rfl) rfl (by kernel_rfl) (by kernel_rfl) (by kernel_rfl) (fun Hq hq => Y.move rfl rfl) (Wd.u rfl) rfl rfl hqs ?_
      refine LH.take 15 (by kernel_rfl) rfl (by kernel_rfl) (by kernel_rfl) (by kernel_rfl) (fun Hq hq => Y.subi rfl rfl rfl (by omega)) (Wd.u rfl) rfl rfl hqs ?_
      refine LH.take 16 (by kernel_rfl) rfl (by kernel_rfl) (by kernel_rfl) (by kernel_rfl) (fun Hq hq => Y.arrAddr (va2.pt.nw hq) (i - 7) rfl Try.runUnderlying86 Try.sizeOf85 rfl rfl (by omega) (by first | omega | (simp; omega) | (simp; done))) (Wd.u rfl) rfl rfl hqs ?_
      refine LH.take 17 (by kernel_rfl) rfl (by kernel_rfl) (by kernel_rfl) (by kernel_rfl) (fun Hq hq => Y.load1 ((va2.pt.at (i - 7) (map_get w (i - 7) (by omega))).nw hq) rfl Try.isAgg85 rfl) (Wd.u rfl) rfl rfl hqs ?_
      refine LH.take 19 (by kernel_rfl) rfl (by kernel_rfl) (by kernel_rfl) (by kernel_rfl) (fun Hq hq => Y.move rfl rfl) (Wd.u rfl) rfl rfl hqs ?_
      refine LH.take 21 (by kernel_rfl) rfl (by kernel_rfl) (by kernel_rfl) (by kernel_rfl) (fun Hq hq => Y.move rfl rfl) (Wd.u rfl) rfl rfl hqs ?_
      refine LH.take 24 (by kernel_rfl) rfl (by kernel_rfl) (by kernel_rfl) (by kernel_rfl) (fun Hq hq => Y.move rfl rfl) (Wd.u rfl) rfl rfl hqs ?_
      refine LH.take 25 (by kernel_rfl) rfl (by kernel_rfl) (by kernel_rfl) (by kernel_rfl) (fun Hq hq => Y.shr_u32 (10) rfl rfl rfl (by first | rfl | omega) (by omega)) (Wd.u rfl) rfl rfl hqs ?_
      refine LH.one (i := 6) (by kernel_rfl) ?_
      -- call selvage/sum.turn
      refine LO.call rfl rfl Try.call67 rfl (Wd.u rfl) rfl rfl (turn_ct _ 7 w0 _ (by omega) (by omega)) (fun v45 H45 r45 => ?_)
      obtain ⟨rfl, rfl⟩ := r45
      have hs45 := Nw.refl H45
      have hq45 := hqs.tr hs45
      refine ⟨.inr hq45, ?_⟩
      refine LH.one (i := 8) (by kernel_rfl) ?_
      -- call selvage/sum.turn
      refine LO.call rfl rfl Try.call67 rfl (Wd.u rfl) rfl rfl (turn_ct _ 18 w0 _ (by omega) (by omega)) (fun v47 H47 r47 => ?_)
      obtain ⟨rfl, rfl⟩ := r47
      have hs47 := Nw.refl H47
      have hq47 := hq45.tr hs47
      refine ⟨.inr hq47, ?_⟩
      refine LH.take 9 (by kernel_rfl) rfl (by kernel_rfl) (by kernel_rfl) (by kernel_rfl) (fun Hq hq => Y.xor_u32 rfl rfl rfl) (Wd.u rfl) rfl rfl hq47 ?_
      refine LH.take 12 (by kernel_rfl) rfl (by kernel_rfl) (by kernel_rfl) (by kernel_rfl) (fun Hq hq => Y.xor_u32 rfl rfl rfl) (Wd.u rfl) rfl rfl hq47 ?_
      refine LH.take 13 (by kernel_rfl) rfl (by kernel_rfl) (by kernel_rfl) (by kernel_rfl) (fun Hq hq => Y.add_u32 rfl rfl rfl) (Wd.u rfl) rfl rfl hq47 ?_
      refine LH.take 18 (by kernel_rfl) rfl (by kernel_rfl) (by kernel_rfl) (by kernel_rfl) (fun Hq hq => Y.add_u32 rfl rfl rfl) (Wd.u rfl) rfl rfl hq47 ?_
      refine LH.one (i := 20) (by kernel_rfl) ?_
      -- call selvage/sum.turn
      refine LO.call rfl rfl Try.call67 rfl (Wd.u rfl) rfl rfl (turn_ct _ 17 w0 _ (by omega) (by omega)) (fun v59 H59 r59 => ?_)
      obtain ⟨rfl, rfl⟩ := r59
      have hs59 := Nw.refl H59
      have hq59 := hq47.tr hs59
      refine ⟨.inr hq59, ?_⟩
      refine LH.one (i := 22) (by kernel_rfl) ?_
      -- call selvage/sum.turn
      refine LO.call rfl rfl Try.call67 rfl (Wd.u rfl) rfl rfl (turn_ct _ 19 w0 _ (by omega) (by omega)) (fun v61 H61 r61 => ?_)
      obtain ⟨rfl, rfl⟩ := r61
      have hs61 := Nw.refl H61
      have hq61 := hq59.tr hs61
      refine ⟨.inr hq61, ?_⟩
      refine LH.take 23 (by kernel_rfl) rfl (by kernel_rfl) (by kernel_rfl) (by kernel_rfl) (fun Hq hq => Y.xor_u32 rfl rfl rfl) (Wd.u rfl) rfl rfl hq61 ?_
      refine LH.take 26 (by kernel_rfl) rfl (by kernel_rfl) (by kernel_rfl) (by kernel_rfl) (fun Hq hq => Y.xor_u32 rfl rfl rfl) (Wd.u rfl) rfl rfl hq61 ?_
      refine LH.take 27 (by kernel_rfl) rfl (by kernel_rfl) (by kernel_rfl) (by kernel_rfl) (fun Hq hq => Y.add_u32 rfl rfl rfl) (Wd.u rfl) rfl rfl hq61 ?_
      refine LH.take 28 (by kernel_rfl) rfl (by kernel_rfl) (by kernel_rfl) (by kernel_rfl) (fun Hq hq => Y.arrAddr (va2.pt.nw hq) (i) rfl Try.runUnderlying86 Try.sizeOf85 rfl rfl (by first | rfl | omega) (by first | omega | (simp; omega) | (simp; done))) (Wd.u rfl) rfl rfl hq61 ?_
      refine LH.one (i := 29) (by kernel_rfl) ?_
      refine LO.s rfl (S.var1 va2 (0 + (i)) (_) rfl rfl rfl (rfl) Try.sizeOf85 (by simp; omega) (map_set w i _)) (Wd.u rfl) rfl (fun H10_29 r10_29 => ?_)
      obtain ⟨va2, hst⟩ := r10_29
      refine ⟨.inl rfl, ?_⟩
      refine LH.done (by kernel_rfl) ?_
      have hqe := hq61
      refine hK18 _ _ ?_
      refine hK17 _ _ ?_
      refine CW.region ?_
      refine LR.v (Y.move rfl rfl) (Wd.u rfl) rfl rfl ?_
      refine LR.v (Y.addi rfl rfl rfl (by omega)) (Wd.u rfl) rfl rfl ?_
      refine LR.v (Y.assign rfl rfl) (Wd.u rfl) rfl rfl ?_
      refine LR.nil ?_
      refine QN.sub (hN14 (i + 1, w.set i (nxt w i)) _ ?_ ?_) ⟨rfl, rfl, (iv (by omega)), trivial⟩
      · exact ⟨by omega, by omega, by simp [hwl], by rw [take_set_succ _ _ _ (by omega), hwt, show i + 1 - 16 = (i - 16) + 1 by omega, schedL, ← hwt, grow_take w i hi0 (by omega)], va2, hm2.trans hst (fun _ _ e => e) (fun _ _ e => e)⟩
      · show 64 - (i + 1) < 64 - i; omega
    ·
      have hi64 : i = 64 := by omega
      subst hi64
      rw [List.take_of_length_le (by omega)] at hwt
      refine CW.exit (hE15 (.exit 2) nofun _ _ (hE14 (.exit 2) nofun _ _ (hX13 _ _ ?_)))
      refine hK11 _ _ ?_
      refine CW.seq (fun K20 hK20 hE20 => ?_)
      refine CW.region ?_
      refine LR.v (Y.move rfl rfl) (Wd.u rfl) rfl rfl ?_
      refine LR.v (Y.nilCheck rfl rfl) (Wd.u rfl) rfl rfl ?_
      refine LR.v (Y.fieldAddr hv.pt rfl Try.runUnderlying99 rfl rfl Try.sizeOf87 (by decide) rfl) (Wd.u rfl) rfl rfl ?_
      refine LR.v (Y.loadN (hv.pt.take 8) rfl Try.isAgg87 Try.sizeOf87 (rfl) rfl) (Wd.u rfl) rfl rfl ?_
      have hlt2 := va2.lt
      refine LR.z (Z.allocv rfl Try.zeroValue87) (Wd.u rfl) rfl rfl (fun v7 H7 r7 => ?_)
      obtain ⟨rfl, va7, hs7, ob7, hH7⟩ := r7
      replace hv := hv.nw hs7
      replace va2 := va2.nw hs7
      refine LR.s (S.var va7 (st.cells) (st.cells) rfl rfl rfl rfl (by simp [Value.oneCell']) Try.sizeOf87 (rfl) (Nat.le_of_ble_eq_true rfl) (rfl)) (Wd.u rfl) rfl (fun H11_5 r11_5 => ?_)
      obtain ⟨va7, hs11⟩ := r11_5
      replace hv := hv.up hs11 (by omega)
      replace va2 := va2.up hs11 (by omega)
      refine LR.nil ?_
      refine hK20 _ _ ?_
      refine CW.seq (fun K21 hK21 hE21 => ?_)
      refine CW.seq (fun K22 hK22 hE22 => ?_)
      refine CW.region ?_
      -- call selvage/sum.rounds
      refine LR.call rfl Try.call68 rfl (Wd.u rfl) rfl rfl (rounds_ct w0 _) (fun v72 H72 r72 => ?_)
      obtain ⟨rfl, hs72⟩ := r72
      replace hv := hv.nw hs72
      replace va2 := va2.nw hs72
      replace va7 := va7.nw hs72
      refine LR.v (Y.move rfl rfl) (Wd.u rfl) rfl rfl ?_
      refine LR.nil ?_
      refine hK22 _ _ ?_
      refine CW.block (fun K23 hK23 hX23 hE23 => ?_)
      refine CW.loop (fun (s_ : (Nat) × (S8)) => match s_ with | (i, q) => [(0, .pointer (some ⟨hb, 0, none⟩)), (2, .pointer (some ⟨H0.size, 0, none⟩)), (7, .pointer (some ⟨HL2.size, 0, none⟩)), (72, .agg (KS.map V32).toArray), (73, .int .i64 i)])
        (fun (s_ : (Nat) × (S8)) (H : Heap) => match s_ with | (i, q) => i ≤ 64 ∧ q = rndN st w i ∧ Var 87 H HL2.size q.cells ∧ Mo (fun c => c = HL2.size) H72 H)
        (fun (s_ : (Nat) × (S8)) => match s_ with | (i, q) => 64 - i) (0, st) ⟨rfl, rfl, rfl, rfl, rfl, trivial⟩ ?_ ?_
      ·
        exact ⟨by omega, rfl, va7, Mo.refl _ _⟩
      rintro ⟨i, q⟩ HL3 hI3 K24 hN24 hE24
      obtain ⟨hi3, hq3, va7, hm3⟩ := hI3
      replace hv := hv.up hm3 (by omega)
      replace va2 := va2.up hm3 (by omega)
      refine CW.seq (fun K25 hK25 hE25 => ?_)
      refine CW.region ?_
      refine LR.v (Y.lss rfl rfl rfl) (Wd.u rfl) rfl rfl ?_
      refine LR.nil ?_
      refine hK25 _ _ ?_
      refine CW.seq (fun K26 hK26 hE26 => ?_)
      refine CW.condp rfl (fun c74 => ?_) (fun c74 => ?_)
      ·
        refine CW.skip ?_
        refine hK26 _ _ ?_
        refine CW.seq (fun K27 hK27 hE27 => ?_)
        refine CW.block (fun K28 hK28 hX28 hE28 => ?_)
        refine CW.seq (fun K29 hK29 hE29 => ?_)
        refine CW.region ?_
        refine LR.v (Y.move rfl rfl) (Wd.u rfl) rfl rfl ?_
        refine LR.v (Y.arrIndex (i) rfl Try.runUnderlying86 Try.sizeOf85 Try.isAgg85 rfl rfl (by first | rfl | omega) (by omega) (by rw [List.getElem?_toArray]; exact map_get KS i (by simp [KS]; omega))) (Wd.u rfl) rfl rfl ?_
        refine LR.v (Y.assign rfl rfl) (Wd.u rfl) rfl rfl ?_
        refine LR.v (Y.assign rfl rfl) (Wd.u rfl) rfl rfl ?_
        refine LR.nil ?_
        refine hK29 _ _ ?_
        refine CW.seq (fun K30 hK30 hE30 => ?_)
        refine CW.region_any (fun Hq => Nw HL3 Hq) [] rfl ?_
        have hqs := Nw.refl HL3
        refine LH.take 0 (by kernel_rfl) rfl (by kernel_rfl) (by kernel_rfl) (by kernel_rfl) (fun Hq hq => Y.arrAddr (va7.pt.nw hq) (7) rfl Try.runUnderlying87 Try.sizeOf85 rfl rfl (by first | rfl | omega) (by first | omega | (simp; omega) | (simp; done))) (Wd.u rfl) rfl rfl hqs ?_
        refine LH.take 1 (by kernel_rfl) rfl (by kernel_rfl) (by kernel_rfl) (by kernel_rfl) (fun Hq hq => Y.load1 ((va7.pt.drop 7).nw hq) rfl Try.isAgg85 rfl) (Wd.u rfl) rfl rfl hqs ?_
        refine LH.take 2 (by kernel_rfl) rfl (by kernel_rfl) (by kernel_rfl) (by kernel_rfl) (fun Hq hq => Y.arrAddr (va7.pt.nw hq) (4) rfl Try.runUnderlying87 Try.sizeOf85 rfl rfl (by first | rfl | omega) (by first | omega | (simp; omega) | (simp; done))) (Wd.u rfl) rfl rfl hqs ?_
        refine LH.take 3 (by kernel_rfl) rfl (by kernel_rfl) (by kernel_rfl) (by kernel_rfl) (fun Hq hq => Y.load1 ((va7.pt.drop 4).nw hq) rfl Try.isAgg85 rfl) (Wd.u rfl) rfl rfl hqs ?_
        refine LH.take 5 (by kernel_rfl) rfl (by kernel_rfl) (by kernel_rfl) (by kernel_rfl) (fun Hq hq => Y.arrAddr (va7.pt.nw hq) (4) rfl Try.runUnderlying87 Try.sizeOf85 rfl rfl (by first | rfl | omega) (by first | omega | (simp; omega) | (simp; done))) (Wd.u rfl) rfl rfl hqs ?_
        refine LH.take 6 (by kernel_rfl) rfl (by kernel_rfl) (by kernel_rfl) (by kernel_rfl) (fun Hq hq => Y.load1 ((va7.pt.drop 4).nw hq) rfl Try.isAgg85 rfl) (Wd.u rfl) rfl rfl hqs ?_
        refine LH.take 9 (by kernel_rfl) rfl (by kernel_rfl) (by kernel_rfl) (by kernel_rfl) (fun Hq hq => Y.arrAddr (va7.pt.nw hq) (4) rfl Try.runUnderlying87 Try.sizeOf85 rfl rfl (by first | rfl | omega) (by first | omega | (simp; omega) | (simp; done))) (Wd.u rfl) rfl rfl hqs ?_
        refine LH.take 10 (by kernel_rfl) rfl (by kernel_rfl) (by kernel_rfl) (by kernel_rfl) (fun Hq hq => Y.load1 ((va7.pt.drop 4).nw hq) rfl Try.isAgg85 rfl) (Wd.u rfl) rfl rfl hqs ?_
        refine LH.take 14 (by kernel_rfl) rfl (by kernel_rfl) (by kernel_rfl) (by kernel_rfl) (fun Hq hq => Y.arrAddr (va7.pt.nw hq) (4) rfl Try.runUnderlying87 Try.sizeOf85 rfl rfl (by first | rfl | omega) (by first | omega | (simp; omega) | (simp; done))) (Wd.u rfl) rfl rfl hqs ?_
        refine LH.take 15 (by kernel_rfl) rfl (by kernel_rfl) (by kernel_rfl) (by kernel_rfl) (fun Hq hq => Y.load1 ((va7.pt.drop 4).nw hq) rfl Try.isAgg85 rfl) (Wd.u rfl) rfl rfl hqs ?_
        refine LH.take 16 (by kernel_rfl) rfl (by kernel_rfl) (by kernel_rfl) (by kernel_rfl) (fun Hq hq => Y.arrAddr (va7.pt.nw hq) (5) rfl Try.runUnderlying87 Try.sizeOf85 rfl rfl (by first | rfl | omega) (by first | omega | (simp; omega) | (simp; done))) (Wd.u rfl) rfl rfl hqs ?_
        refine LH.take 17 (by kernel_rfl) rfl (by kernel_rfl) (by kernel_rfl) (by kernel_rfl) (fun Hq hq => Y.load1 ((va7.pt.drop 5).nw hq) rfl Try.isAgg85 rfl) (Wd.u rfl) rfl rfl hqs ?_
        refine LH.take 18 (by kernel_rfl) rfl (by kernel_rfl) (by kernel_rfl) (by kernel_rfl) (fun Hq hq => Y.and_u32 rfl rfl rfl) (Wd.u rfl) rfl rfl hqs ?_
        refine LH.take 19 (by kernel_rfl) rfl (by kernel_rfl) (by kernel_rfl) (by kernel_rfl) (fun Hq hq => Y.arrAddr (va7.pt.nw hq) (4) rfl Try.runUnderlying87 Try.sizeOf85 rfl rfl (by first | rfl | omega) (by first | omega | (simp; omega) | (simp; done))) (Wd.u rfl) rfl rfl hqs ?_
        refine LH.take 20 (by kernel_rfl) rfl (by kernel_rfl) (by kernel_rfl) (by kernel_rfl) (fun Hq hq => Y.load1 ((va7.pt.drop 4).nw hq) rfl Try.isAgg85 rfl) (Wd.u rfl) rfl rfl hqs ?_
        refine LH.take 21 (by kernel_rfl) rfl (by kernel_rfl) (by kernel_rfl) (by kernel_rfl) (fun Hq hq => Y.not_u32 rfl rfl) (Wd.u rfl) rfl rfl hqs ?_
        refine LH.take 22 (by kernel_rfl) rfl (by kernel_rfl) (by kernel_rfl) (by kernel_rfl) (fun Hq hq => Y.arrAddr (va7.pt.nw hq) (6) rfl Try.runUnderlying87 Try.sizeOf85 rfl rfl (by first | rfl | omega) (by first | omega | (simp; omega) | (simp; done))) (Wd.u rfl) rfl rfl hqs ?_
        refine LH.take 23 (by kernel_rfl) rfl (by kernel_rfl) (by kernel_rfl) (by kernel_rfl) (fun Hq hq => Y.load1 ((va7.pt.drop 6).nw hq) rfl Try.isAgg85 rfl) (Wd.u rfl) rfl rfl hqs ?_
        refine LH.take 24 (by kernel_rfl) rfl (by kernel_rfl) (by kernel_rfl) (by kernel_rfl) (fun Hq hq => Y.and_u32 rfl rfl rfl) (Wd.u rfl) rfl rfl hqs ?_
        refine LH.take 25 (by kernel_rfl) rfl (by kernel_rfl) (by kernel_rfl) (by kernel_rfl) (fun Hq hq => Y.xor_u32 rfl rfl rfl) (Wd.u rfl) rfl rfl hqs ?_
        refine LH.take 27 (by kernel_rfl) rfl (by kernel_rfl) (by kernel_rfl) (by kernel_rfl) (fun Hq hq => Y.move rfl rfl) (Wd.u rfl) rfl rfl hqs ?_
        refine LH.take 29 (by kernel_rfl) rfl (by kernel_rfl) (by kernel_rfl) (by kernel_rfl) (fun Hq hq => Y.move rfl rfl) (Wd.u rfl) rfl rfl hqs ?_
        refine LH.take 30 (by kernel_rfl) rfl (by kernel_rfl) (by kernel_rfl) (by kernel_rfl) (fun Hq hq => Y.arrAddr (va2.pt.nw hq) (i) rfl Try.runUnderlying86 Try.sizeOf85 rfl rfl (by first | rfl | omega) (by first | omega | (simp; omega) | (simp; done))) (Wd.u rfl) rfl rfl hqs ?_
        refine LH.take 31 (by kernel_rfl) rfl (by kernel_rfl) (by kernel_rfl) (by kernel_rfl) (fun Hq hq => Y.load1 ((va2.pt.at (i) (map_get w i (by omega))).nw hq) rfl Try.isAgg85 rfl) (Wd.u rfl) rfl rfl hqs ?_
        refine LH.one (i := 4) (by kernel_rfl) ?_
        -- call selvage/sum.turn
        refine LO.call rfl rfl Try.call67 rfl (Wd.u rfl) rfl rfl (turn_ct _ 6 w0 _ (by omega) (by omega)) (fun v81 H81 r81 => ?_)
        obtain ⟨rfl, rfl⟩ := r81
        have hs81 := Nw.refl H81
        have hq81 := hqs.tr hs81
        refine ⟨.inr hq81, ?_⟩
        refine LH.one (i := 7) (by kernel_rfl) ?_
        -- call selvage/sum.turn
        refine LO.call rfl rfl Try.call67 rfl (Wd.u rfl) rfl rfl (turn_ct _ 11 w0 _ (by omega) (by omega)) (fun v84 H84 r84 => ?_)
        obtain ⟨rfl, rfl⟩ := r84
        have hs84 := Nw.refl H84
        have hq84 := hq81.tr hs84
        refine ⟨.inr hq84, ?_⟩
        refine LH.take 8 (by kernel_rfl) rfl (by kernel_rfl) (by kernel_rfl) (by kernel_rfl) (fun Hq hq => Y.xor_u32 rfl rfl rfl) (Wd.u rfl) rfl rfl hq84 ?_
        refine LH.one (i := 11) (by kernel_rfl) ?_
        -- call selvage/sum.turn
        refine LO.call rfl rfl Try.call67 rfl (Wd.u rfl) rfl rfl (turn_ct _ 25 w0 _ (by omega) (by omega)) (fun v88 H88 r88 => ?_)
        obtain ⟨rfl, rfl⟩ := r88
        have hs88 := Nw.refl H88
        have hq88 := hq84.tr hs88
        refine ⟨.inr hq88, ?_⟩
        refine LH.take 12 (by kernel_rfl) rfl (by kernel_rfl) (by kernel_rfl) (by kernel_rfl) (fun Hq hq => Y.xor_u32 rfl rfl rfl) (Wd.u rfl) rfl rfl hq88 ?_
        refine LH.take 13 (by kernel_rfl) rfl (by kernel_rfl) (by kernel_rfl) (by kernel_rfl) (fun Hq hq => Y.add_u32 rfl rfl rfl) (Wd.u rfl) rfl rfl hq88 ?_
        refine LH.take 26 (by kernel_rfl) rfl (by kernel_rfl) (by kernel_rfl) (by kernel_rfl) (fun Hq hq => Y.add_u32 rfl rfl rfl) (Wd.u rfl) rfl rfl hq88 ?_
        refine LH.take 28 (by kernel_rfl) rfl (by kernel_rfl) (by kernel_rfl) (by kernel_rfl) (fun Hq hq => Y.add_u32 rfl rfl rfl) (Wd.u rfl) rfl rfl hq88 ?_
        refine LH.take 32 (by kernel_rfl) rfl (by kernel_rfl) (by kernel_rfl) (by kernel_rfl) (fun Hq hq => Y.add_u32 rfl rfl rfl) (Wd.u rfl) rfl rfl hq88 ?_
        refine LH.take 33 (by kernel_rfl) rfl (by kernel_rfl) (by kernel_rfl) (by kernel_rfl) (fun Hq hq => Y.assign rfl rfl) (Wd.u rfl) rfl rfl hq88 ?_
        refine LH.done (by kernel_rfl) ?_
        have hqe := hq88
        refine hK30 _ _ ?_
        refine CW.seq (fun K31 hK31 hE31 => ?_)
        refine CW.region_any (fun Hq => Nw H88 Hq) [] rfl ?_
        have hqs := Nw.refl H88
        refine LH.take 0 (by kernel_rfl) rfl (by kernel_rfl) (by kernel_rfl) (by kernel_rfl) (fun Hq hq => Y.arrAddr (va7.pt.nw hq) (0) rfl Try.runUnderlying87 Try.sizeOf85 rfl rfl (by first | rfl | omega) (by first | omega | (simp; omega) | (simp; done))) (Wd.u rfl) rfl rfl hqs ?_
        refine LH.take 1 (by kernel_rfl) rfl (by kernel_rfl) (by kernel_rfl) (by kernel_rfl) (fun Hq hq => Y.load1 (va7.pt.nw hq) rfl Try.isAgg85 rfl) (Wd.u rfl) rfl rfl hqs ?_
        refine LH.take 3 (by kernel_rfl) rfl (by kernel_rfl) (by kernel_rfl) (by kernel_rfl) (fun Hq hq => Y.arrAddr (va7.pt.nw hq) (0) rfl Try.runUnderlying87 Try.sizeOf85 rfl rfl (by first | rfl | omega) (by first | omega | (simp; omega) | (simp; done))) (Wd.u rfl) rfl rfl hqs ?_
        refine LH.take 4 (by kernel_rfl) rfl (by kernel_rfl) (by kernel_rfl) (by kernel_rfl) (fun Hq hq => Y.load1 (va7.pt.nw hq) rfl Try.isAgg85 rfl) (Wd.u rfl) rfl rfl hqs ?_
        refine LH.take 7 (by kernel_rfl) rfl (by kernel_rfl) (by kernel_rfl) (by kernel_rfl) (fun Hq hq => Y.arrAddr (va7.pt.nw hq) (0) rfl Try.runUnderlying87 Try.sizeOf85 rfl rfl (by first | rfl | omega) (by first | omega | (simp; omega) | (simp; done))) (Wd.u rfl) rfl rfl hqs ?_
        refine LH.take 8 (by kernel_rfl) rfl (by kernel_rfl) (by kernel_rfl) (by kernel_rfl) (fun Hq hq => Y.load1 (va7.pt.nw hq) rfl Try.isAgg85 rfl) (Wd.u rfl) rfl rfl hqs ?_
        refine LH.take 11 (by kernel_rfl) rfl (by kernel_rfl) (by kernel_rfl) (by kernel_rfl) (fun Hq hq => Y.arrAddr (va7.pt.nw hq) (0) rfl Try.runUnderlying87 Try.sizeOf85 rfl rfl (by first | rfl | omega) (by first | omega | (simp; omega) | (simp; done))) (Wd.u rfl) rfl rfl hqs ?_
        refine LH.take 12 (by kernel_rfl) rfl (by kernel_rfl) (by kernel_rfl) (by kernel_rfl) (fun Hq hq => Y.load1 (va7.pt.nw hq) rfl Try.isAgg85 rfl) (Wd.u rfl) rfl rfl hqs ?_
        refine LH.take 13 (by kernel_rfl) rfl (by kernel_rfl) (by kernel_rfl) (by kernel_rfl) (fun Hq hq => Y.arrAddr (va7.pt.nw hq) (1) rfl Try.runUnderlying87 Try.sizeOf85 rfl rfl (by first | rfl | omega) (by first | omega | (simp; omega) | (simp; done))) (Wd.u rfl) rfl rfl hqs ?_
        refine LH.take 14 (by kernel_rfl) rfl (by kernel_rfl) (by kernel_rfl) (by kernel_rfl) (fun Hq hq => Y.load1 ((va7.pt.drop 1).nw hq) rfl Try.isAgg85 rfl) (Wd.u rfl) rfl rfl hqs ?_
        refine LH.take 15 (by kernel_rfl) rfl (by kernel_rfl) (by kernel_rfl) (by kernel_rfl) (fun Hq hq => Y.and_u32 rfl rfl rfl) (Wd.u rfl) rfl rfl hqs ?_
        refine LH.take 16 (by kernel_rfl) rfl (by kernel_rfl) (by kernel_rfl) (by kernel_rfl) (fun Hq hq => Y.arrAddr (va7.pt.nw hq) (0) rfl Try.runUnderlying87 Try.sizeOf85 rfl rfl (by first | rfl | omega) (by first | omega | (simp; omega) | (simp; done))) (Wd.u rfl) rfl rfl hqs ?_
        refine LH.take 17 (by kernel_rfl) rfl (by kernel_rfl) (by kernel_rfl) (by kernel_rfl) (fun Hq hq => Y.load1 (va7.pt.nw hq) rfl Try.isAgg85 rfl) (Wd.u rfl) rfl rfl hqs ?_
        refine LH.take 18 (by kernel_rfl) rfl (by kernel_rfl) (by kernel_rfl) (by kernel_rfl) (fun Hq hq => Y.arrAddr (va7.pt.nw hq) (2) rfl Try.runUnderlying87 Try.sizeOf85 rfl rfl (by first | rfl | omega) (by first | omega | (simp; omega) | (simp; done))) (Wd.u rfl) rfl rfl hqs ?_
        refine LH.take 19 (by kernel_rfl) rfl (by kernel_rfl) (by kernel_rfl) (by kernel_rfl) (fun Hq hq => Y.load1 ((va7.pt.drop 2).nw hq) rfl Try.isAgg85 rfl) (Wd.u rfl) rfl rfl hqs ?_
        refine LH.take 20 (by kernel_rfl) rfl (by kernel_rfl) (by kernel_rfl) (by kernel_rfl) (fun Hq hq => Y.and_u32 rfl rfl rfl) (Wd.u rfl) rfl rfl hqs ?_
        refine LH.take 21 (by kernel_rfl) rfl (by kernel_rfl) (by kernel_rfl) (by kernel_rfl) (fun Hq hq => Y.xor_u32 rfl rfl rfl) (Wd.u rfl) rfl rfl hqs ?_
        refine LH.take 22 (by kernel_rfl) rfl (by kernel_rfl) (by kernel_rfl) (by kernel_rfl) (fun Hq hq => Y.arrAddr (va7.pt.nw hq) (1) rfl Try.runUnderlying87 Try.sizeOf85 rfl rfl (by first | rfl | omega) (by first | omega | (simp; omega) | (simp; done))) (Wd.u rfl) rfl rfl hqs ?_
        refine LH.take 23 (by kernel_rfl) rfl (by kernel_rfl) (by kernel_rfl) (by kernel_rfl) (fun Hq hq => Y.load1 ((va7.pt.drop 1).nw hq) rfl Try.isAgg85 rfl) (Wd.u rfl) rfl rfl hqs ?_
        refine LH.take 24 (by kernel_rfl) rfl (by kernel_rfl) (by kernel_rfl) (by kernel_rfl) (fun Hq hq => Y.arrAddr (va7.pt.nw hq) (2) rfl Try.runUnderlying87 Try.sizeOf85 rfl rfl (by first | rfl | omega) (by first | omega | (simp; omega) | (simp; done))) (Wd.u rfl) rfl rfl hqs ?_
        refine LH.take 25 (by kernel_rfl) rfl (by kernel_rfl) (by kernel_rfl) (by kernel_rfl) (fun Hq hq => Y.load1 ((va7.pt.drop 2).nw hq) rfl Try.isAgg85 rfl) (Wd.u rfl) rfl rfl hqs ?_
        refine LH.take 26 (by kernel_rfl) rfl (by kernel_rfl) (by kernel_rfl) (by kernel_rfl) (fun Hq hq => Y.and_u32 rfl rfl rfl) (Wd.u rfl) rfl rfl hqs ?_
        refine LH.take 27 (by kernel_rfl) rfl (by kernel_rfl) (by kernel_rfl) (by kernel_rfl) (fun Hq hq => Y.xor_u32 rfl rfl rfl) (Wd.u rfl) rfl rfl hqs ?_
        refine LH.one (i := 2) (by kernel_rfl) ?_
        -- call selvage/sum.turn
        refine LO.call rfl rfl Try.call67 rfl (Wd.u rfl) rfl rfl (turn_ct _ 2 w0 _ (by omega) (by omega)) (fun v112 H112 r112 => ?_)
        obtain ⟨rfl, rfl⟩ := r112
        have hs112 := Nw.refl H112
        have hq112 := hqs.tr hs112
        refine ⟨.inr hq112, ?_⟩
        refine LH.one (i := 5) (by kernel_rfl) ?_
        -- call selvage/sum.turn
        refine LO.call rfl rfl Try.call67 rfl (Wd.u rfl) rfl rfl (turn_ct _ 13 w0 _ (by omega) (by omega)) (fun v115 H115 r115 => ?_)
        obtain ⟨rfl, rfl⟩ := r115
        have hs115 := Nw.refl H115
        have hq115 := hq112.tr hs115
        refine ⟨.inr hq115, ?_⟩
        refine LH.take 6 (by kernel_rfl) rfl (by kernel_rfl) (by kernel_rfl) (by kernel_rfl) (fun Hq hq => Y.xor_u32 rfl rfl rfl) (Wd.u rfl) rfl rfl hq115 ?_
        refine LH.one (i := 9) (by kernel_rfl) ?_
        -- call selvage/sum.turn
        refine LO.call rfl rfl Try.call67 rfl (Wd.u rfl) rfl rfl (turn_ct _ 22 w0 _ (by omega) (by omega)) (fun v119 H119 r119 => ?_)
        obtain ⟨rfl, rfl⟩ := r119
        have hs119 := Nw.refl H119
        have hq119 := hq115.tr hs119
        refine ⟨.inr hq119, ?_⟩
        refine LH.take 10 (by kernel_rfl) rfl (by kernel_rfl) (by kernel_rfl) (by kernel_rfl) (fun Hq hq => Y.xor_u32 rfl rfl rfl) (Wd.u rfl) rfl rfl hq119 ?_
        refine LH.take 28 (by kernel_rfl) rfl (by kernel_rfl) (by kernel_rfl) (by kernel_rfl) (fun Hq hq => Y.add_u32 rfl rfl rfl) (Wd.u rfl) rfl rfl hq119 ?_
        refine LH.take 29 (by kernel_rfl) rfl (by kernel_rfl) (by kernel_rfl) (by kernel_rfl) (fun Hq hq => Y.assign rfl rfl) (Wd.u rfl) rfl rfl hq119 ?_
        refine LH.done (by kernel_rfl) ?_
        have hqe := hq119
        refine hK31 _ _ ?_
        refine CW.region ?_
        refine LR.v (Y.move rfl rfl) (Wd.u rfl) rfl rfl ?_
        refine LR.v (Y.move rfl rfl) (Wd.u rfl) rfl rfl ?_
        refine LR.v (Y.add_u32 rfl rfl rfl) (Wd.u rfl) rfl rfl ?_
        refine LR.v (Y.arrAddr va7.pt (0) rfl Try.runUnderlying87 Try.sizeOf85 rfl rfl (by first | rfl | omega) (by first | omega | (simp; omega) | (simp; done))) (Wd.u rfl) rfl rfl ?_
        refine LR.v (Y.load1 va7.pt rfl Try.isAgg85 rfl) (Wd.u rfl) rfl rfl ?_
        refine LR.v (Y.arrAddr va7.pt (1) rfl Try.runUnderlying87 Try.sizeOf85 rfl rfl (by first | rfl | omega) (by first | omega | (simp; omega) | (simp; done))) (Wd.u rfl) rfl rfl ?_
        refine LR.v (Y.load1 (va7.pt.drop 1) rfl Try.isAgg85 rfl) (Wd.u rfl) rfl rfl ?_
        refine LR.v (Y.arrAddr va7.pt (2) rfl Try.runUnderlying87 Try.sizeOf85 rfl rfl (by first | rfl | omega) (by first | omega | (simp; omega) | (simp; done))) (Wd.u rfl) rfl rfl ?_
        refine LR.v (Y.load1 (va7.pt.drop 2) rfl Try.isAgg85 rfl) (Wd.u rfl) rfl rfl ?_
        refine LR.v (Y.arrAddr va7.pt (3) rfl Try.runUnderlying87 Try.sizeOf85 rfl rfl (by first | rfl | omega) (by first | omega | (simp; omega) | (simp; done))) (Wd.u rfl) rfl rfl ?_
        refine LR.v (Y.load1 (va7.pt.drop 3) rfl Try.isAgg85 rfl) (Wd.u rfl) rfl rfl ?_
        refine LR.v (Y.move rfl rfl) (Wd.u rfl) rfl rfl ?_
        refine LR.v (Y.add_u32 rfl rfl rfl) (Wd.u rfl) rfl rfl ?_
        refine LR.v (Y.arrAddr va7.pt (4) rfl Try.runUnderlying87 Try.sizeOf85 rfl rfl (by first | rfl | omega) (by first | omega | (simp; omega) | (simp; done))) (Wd.u rfl) rfl rfl ?_
        refine LR.v (Y.load1 (va7.pt.drop 4) rfl Try.isAgg85 rfl) (Wd.u rfl) rfl rfl ?_
        refine LR.v (Y.arrAddr va7.pt (5) rfl Try.runUnderlying87 Try.sizeOf85 rfl rfl (by first | rfl | omega) (by first | omega | (simp; omega) | (simp; done))) (Wd.u rfl) rfl rfl ?_
        refine LR.v (Y.load1 (va7.pt.drop 5) rfl Try.isAgg85 rfl) (Wd.u rfl) rfl rfl ?_
        refine LR.v (Y.arrAddr va7.pt (6) rfl Try.runUnderlying87 Try.sizeOf85 rfl rfl (by first | rfl | omega) (by first | omega | (simp; omega) | (simp; done))) (Wd.u rfl) rfl rfl ?_
        refine LR.v (Y.load1 (va7.pt.drop 6) rfl Try.isAgg85 rfl) (Wd.u rfl) rfl rfl ?_
        refine LR.v (Y.build (v := .agg (rnd q (KS.getD i 0) (w.getD i 0)).cells.toArray) rfl rfl (by intro w; kernel_rfl)) (Wd.u rfl) rfl rfl ?_
        refine LR.s (S.var va7 ((rnd q (KS.getD i 0) (w.getD i 0)).cells) ((rnd q (KS.getD i 0) (w.getD i 0)).cells) rfl rfl rfl rfl (by simp [Value.oneCell']) Try.sizeOf87 (rfl) (Nat.le_of_ble_eq_true rfl) (rfl)) (Wd.u rfl) rfl (fun H17_20 r17_20 => ?_)
        obtain ⟨va7, hst17⟩ := r17_20
        refine LR.nil ?_
        refine hK28 _ _ ?_
        refine hK27 _ _ ?_
        refine CW.region ?_
        refine LR.v (Y.addi rfl rfl rfl (by omega)) (Wd.u rfl) rfl rfl ?_
        refine LR.v (Y.move rfl rfl) (Wd.u rfl) rfl rfl ?_
        refine LR.nil ?_
        refine QN.sub (hN24 (i + 1, rnd q (KS.getD i 0) (w.getD i 0)) _ ?_ ?_) ⟨rfl, rfl, rfl, rfl, (iv (by omega)), trivial⟩
        · exact ⟨by omega, by rw [hq3]; rfl, va7, hm3.trans hst17 (fun _ _ e => e) (fun _ _ e => e)⟩
        · show 64 - (i + 1) < 64 - i; omega
      ·
        have hi64 : i = 64 := by omega
        subst hi64
        rw [hwt] at hq3
        have hcm : (add8 st q).list = (compress st wt).list := by rw [hq3]; rfl
        refine CW.exit (hE26 (.exit 4) nofun _ _ (hE24 (.exit 4) nofun _ _ (hX23 _ _ ?_)))
        refine hK21 _ _ ?_
        refine CW.seq (fun K32 hK32 hE32 => ?_)
        refine CW.seq (fun K33 hK33 hE33 => ?_)
        refine CW.region ?_
        refine LR.v (Y.loadN va7.pt rfl Try.isAgg87 Try.sizeOf87 (rfl) rfl) (Wd.u rfl) rfl rfl ?_
        refine LR.v (Y.move rfl rfl) (Wd.u rfl) rfl rfl ?_
        refine LR.nil ?_
        refine hK33 _ _ ?_
        refine CW.block (fun K34 hK34 hX34 hE34 => ?_)
        refine CW.loop (fun (i : (Nat)) => [(0, .pointer (some ⟨hb, 0, none⟩)), (160, .agg q.cells.toArray), (161, .int .i64 i)])
          (fun (i : (Nat)) (H : Heap) => i ≤ 8 ∧ Var 99 H hb (hc (addL st.list q.list i) wt n al) ∧ Mo (fun c => c = hb) HL3 H)
          (fun (i : (Nat)) => 8 - i) 0 ⟨rfl, rfl, rfl, trivial⟩ ?_ ?_
        ·
          exact ⟨by omega, hv, Mo.refl _ _⟩
        intro i HL4 hI4 K35 hN35 hE35
        obtain ⟨hi4, hv, hm4⟩ := hI4
        have hal := addL_len st.list q.list i rfl rfl hi4
        refine CW.seq (fun K36 hK36 hE36 => ?_)
        refine CW.region ?_
        refine LR.v (Y.lss rfl rfl rfl) (Wd.u rfl) rfl rfl ?_
        refine LR.nil ?_
        refine hK36 _ _ ?_
        refine CW.seq (fun K37 hK37 hE37 => ?_)
        refine CW.condp rfl (fun c162 => ?_) (fun c162 => ?_)
        ·
          refine CW.skip ?_
          refine hK37 _ _ ?_
          refine CW.seq (fun K38 hK38 hE38 => ?_)
          refine CW.block (fun K39 hK39 hX39 hE39 => ?_)
          refine CW.seq (fun K40 hK40 hE40 => ?_)
          refine CW.region ?_
          refine LR.v (Y.move rfl rfl) (Wd.u rfl) rfl rfl ?_
          refine LR.v (Y.arrIndex (i) rfl Try.runUnderlying87 Try.sizeOf85 Try.isAgg85 rfl rfl (by first | rfl | omega) (by omega) (by rw [List.getElem?_toArray]; exact map_get q.list i (by simp; omega))) (Wd.u rfl) rfl rfl ?_
          refine LR.v (Y.assign rfl rfl) (Wd.u rfl) rfl rfl ?_
          refine LR.v (Y.assign rfl rfl) (Wd.u rfl) rfl rfl ?_
          refine LR.nil ?_
          refine hK40 _ _ ?_
          refine CW.region_tail 11 rfl (by kernel_rfl) (fun T22 hT22 => ?_)
          refine LR.v (Y.move rfl rfl) (Wd.u rfl) rfl rfl ?_
          refine LR.v (Y.move rfl rfl) (Wd.u rfl) rfl rfl ?_
          refine LR.v (Y.nilCheck rfl rfl) (Wd.u rfl) rfl rfl ?_
          refine LR.v (Y.fieldAddr hv.pt rfl Try.runUnderlying99 rfl rfl Try.sizeOf87 (by decide) rfl) (Wd.u rfl) rfl rfl ?_
          refine LR.v (Y.arrAddr hv.pt (i) rfl Try.runUnderlying87 Try.sizeOf85 rfl rfl (by first | rfl | omega) (by first | omega | (simp; omega) | (simp; done))) (Wd.u rfl) rfl rfl ?_
          
          refine LR.v (Y.load1 (hv.pt.at (i) (hc_state i (by omega))) rfl Try.isAgg85 rfl) (Wd.u rfl) rfl rfl ?_
          rw [addL_get st.list q.list i rfl rfl (by omega)]
          refine LR.v (Y.move rfl rfl) (Wd.u rfl) rfl rfl ?_
          refine LR.v (Y.add_u32 rfl rfl rfl) (Wd.u rfl) rfl rfl ?_
          refine LR.v (Y.nilCheck rfl rfl) (Wd.u rfl) rfl rfl ?_
          refine LR.v (Y.fieldAddr hv.pt rfl Try.runUnderlying99 rfl rfl Try.sizeOf87 (by decide) rfl) (Wd.u rfl) rfl rfl ?_
          refine LR.v (Y.arrAddr hv.pt (i) rfl Try.runUnderlying87 Try.sizeOf85 rfl rfl (by first | rfl | omega) (by first | omega | (simp; omega) | (simp; done))) (Wd.u rfl) rfl rfl ?_
          refine LR.nil (hT22 _ ?_)
          refine LR.s (S.var1 hv (0 + (i)) (_) rfl rfl rfl (rfl) Try.sizeOf85 (by rw [hc_len hal hw]; omega) (hc_set_state i (by omega) _)) (Wd.u rfl) rfl (fun H22_11 r22_11 => ?_)
          obtain ⟨hv, hst22⟩ := r22_11
          refine LR.nil ?_
          refine hK39 _ _ ?_
          refine hK38 _ _ ?_
          refine CW.region ?_
          refine LR.v (Y.addi rfl rfl rfl (by omega)) (Wd.u rfl) rfl rfl ?_
          refine LR.v (Y.move rfl rfl) (Wd.u rfl) rfl rfl ?_
          refine LR.nil ?_
          refine QN.sub (hN35 (i + 1) _ ?_ ?_) ⟨rfl, rfl, (iv (by omega)), trivial⟩
          · exact ⟨by omega, by rw [← addL_succ st.list q.list i rfl rfl (by omega)]; exact hv, hm4.trans hst22 (fun _ _ e => e) (fun _ _ e => e)⟩
          · omega
        ·
          have hi8 : i = 8 := by omega
          subst hi8
          refine CW.exit (hE37 (.exit 6) nofun _ _ (hE35 (.exit 6) nofun _ _ (hX34 _ _ ?_)))
          refine hK32 _ _ ?_
          refine CW.region ?_
          refine LR.v (Y.move rfl rfl) (Wd.u rfl) rfl rfl ?_
          refine LR.v (Y.nilCheck rfl rfl) (Wd.u rfl) rfl rfl ?_
          refine LR.v (Y.fieldAddr hv.pt rfl Try.runUnderlying99 rfl rfl Try.sizeOf3 (by decide) rfl) (Wd.u rfl) rfl rfl ?_
          refine LR.s (S.var1 hv 72 (_) rfl rfl rfl (rfl) Try.sizeOf3 (by rw [hc_len hal hw]; omega) (hc_set_n (m := 0) hal hw)) (Wd.u rfl) rfl (fun H24_3 r24_3 => ?_)
          obtain ⟨hv, hst24⟩ := r24_3
          refine LR.nil ?_
          refine hret .normal (.inl rfl) _ _ _ (res0 rfl) ?_
          refine ⟨rfl, by rw [← hcm]; exact hv, ⟨by have := hs2.size; have := hm.size; have := hm2.size; have := hs7.size; have := hs11.size; have := hs72.size; have := hm3.size; have := hm4.size; have := hst24.size; omega, fun b hb2 hne => ?_⟩⟩
          have q1 := hs2.size; have q2 := hm.size; have q3 := hm2.size; have q4 := hs7.size; have q5 := hs11.size; have q6 := hs72.size; have q7 := hm3.size; have q8 := hm4.size
          rw [hst24.same b (by omega) hne, hm4.same b (by omega) hne, hm3.same b (by omega) (by omega), hs72.same b (by omega) (fun e => e), hs11.same b (by omega) (by omega), hs7.same b (by omega) (fun e => e), hm2.same b (by omega) (by omega), hm.same b (by omega) (by omega), hs2.same b (by omega) (fun e => e)]

end Go.Proofs.Ytegfnfhdgbcjbaa.SumC
