/-
  Contracts of functions of the program, and plain laws: put together of several texts.
-/
import Derived.Test.YtdliddjkacbggaaDoorGa
import Derived.Test.YtdliddjkacbggaaDoorRows
import Derived.ProofKit
import Derived.OpenShut
import Derived.ShutString
import Derived.ChangeOld
import Derived.Below
import Derived.JoinedCond
import Derived.Deep.Slices
import Derived.ChangeSame
import Derived.Maps.RangeRun
/-
  One block of the sum, in memory.
-/
namespace Go.Proofs.YtdliddjkacbggaaDoor.SumC
open Go.Proofs.YtdliddjkacbggaaDoor.E Go.RowKit Go.Proofs.YtdliddjkacbggaaDoor.SumA Go.Proofs.YtdliddjkacbggaaDoor.SumB
set_option maxRecDepth 20000
set_option linter.unusedVariables false
set_option linter.unusedSimpArgs false
set_option linter.unusedSectionVars false

theorem map_get (w : List UInt32) (j : Nat) (h : j < w.length) : (w.map V32)[j]? = some (V32 (w.getD j 0)) := by simp [h]
theorem map_set (w : List UInt32) (j : Nat) (x : UInt32) : (w.map V32).set (0 + j) (V32 x) = (w.set j x).map V32 := by rw [Nat.zero_add, List.map_set]
theorem take_set_succ {α : Type} (w : List α) (j : Nat) (x : α) (h : j < w.length) : (w.set j x).take (j + 1) = w.take j ++ [x] := by
  rw [List.take_succ_eq_append_getElem (by simpa using h), List.take_set]; rw [List.set_eq_of_length_le (by simp; omega)]; simp
theorem getD_take (w : List UInt32) (j k : Nat) (h : j < k) : (w.take k).getD j 0 = w.getD j 0 := by
  simp [List.getD, List.getElem?_take, h]
theorem first16_succ (b : List UInt8) (n : Nat) : first16 b (n + 1) = first16 b n ++ [word4 (b.getD (4 * n) 0) (b.getD (4 * n + 1) 0) (b.getD (4 * n + 2) 0) (b.getD (4 * n + 3) 0)] := by
  unfold first16; rw [List.range_succ, List.map_append]; rfl
def nxt (w : List UInt32) (i : Nat) : UInt32 := w.getD (i - 16) 0 + (rotr (w.getD (i - 15) 0) 7 ^^^ rotr (w.getD (i - 15) 0) 18 ^^^ shrw_u32 (w.getD (i - 15) 0) 3) + w.getD (i - 7) 0 + (rotr (w.getD (i - 2) 0) 17 ^^^ rotr (w.getD (i - 2) 0) 19 ^^^ shrw_u32 (w.getD (i - 2) 0) 10)
theorem grow_take (w : List UInt32) (i : Nat) (h0 : 16 ≤ i) (h : i ≤ w.length) : grow (w.take i) = w.take i ++ [nxt w i] := by
  unfold grow nxt
  have hl : (w.take i).length = i := by simp; omega
  rw [hl, getD_take w (i - 16) i (by omega), getD_take w (i - 15) i (by omega), getD_take w (i - 7) i (by omega), getD_take w (i - 2) i (by omega)]
/-- the cells of a sum under way -/
abbrev hc (s : List UInt32) (wt : List UInt8) (n : Nat) (al : UInt64) : List Value := s.map V32 ++ wt.map V8 ++ [.int .i64 n, .int .u64 al.toNat]
theorem hc_len {s : List UInt32} {wt : List UInt8} {n : Nat} {al : UInt64} (hs : s.length = 8) (hw : wt.length = 64) : (hc s wt n al).length = 74 := by simp [hs, hw]
theorem hc_wait {s : List UInt32} {wt : List UInt8} {n : Nat} {al : UInt64} (hs : s.length = 8) (i : Nat) (x : UInt8) (h : wt[i]? = some x) : ((hc s wt n al).drop 8)[i]? = (fB x)[0]? ∧ (fB x).length = 1 := by
  refine ⟨?_, rfl⟩
  have hi := (List.getElem?_eq_some_iff.1 h).1
  have : (s.map V32).length = 8 := by simpa using hs
  rw [hc, List.append_assoc, List.drop_left' this, List.getElem?_append_left (by simpa using hi)]
  simp [h]
theorem hc_n {s : List UInt32} {wt : List UInt8} {n : Nat} {al : UInt64} (hs : s.length = 8) (hw : wt.length = 64) : (hc s wt n al)[72]? = some (.int .i64 n) := by
  rw [hc, List.getElem?_append_right (by simp [hs, hw])]; simp [hs, hw]
theorem hc_all {s : List UInt32} {wt : List UInt8} {n : Nat} {al : UInt64} (hs : s.length = 8) (hw : wt.length = 64) : (hc s wt n al)[73]? = some (.int .u64 al.toNat) := by
  rw [hc, List.getElem?_append_right (by simp [hs, hw])]; simp [hs, hw]
theorem hc_set_n {s : List UInt32} {wt : List UInt8} {n m : Nat} {al : UInt64} (hs : s.length = 8) (hw : wt.length = 64) : (hc s wt n al).set 72 (.int .i64 m) = hc s wt m al := by
  rw [hc, List.set_append_right _ _ (by simp [hs, hw])]; simp [hs, hw]
theorem hc_set_all {s : List UInt32} {wt : List UInt8} {n : Nat} {al be : UInt64} (hs : s.length = 8) (hw : wt.length = 64) : (hc s wt n al).set 73 (.int .u64 be.toNat) = hc s wt n be := by
  rw [hc, List.set_append_right _ _ (by simp [hs, hw])]; simp [hs, hw]
theorem hc_state {s : List UInt32} {wt : List UInt8} {n : Nat} {al : UInt64} (i : Nat) (hi : i < s.length) : (hc s wt n al)[i]? = some (V32 (s.getD i 0)) := by
  rw [hc, List.append_assoc, List.getElem?_append_left (by simpa using hi)]; simp [hi]
theorem hc_set_state {s : List UInt32} {wt : List UInt8} {n : Nat} {al : UInt64} (i : Nat) (hi : i < s.length) (x : UInt32) : (hc s wt n al).set (0 + i) (V32 x) = hc (s.set i x) wt n al := by
  rw [hc, List.append_assoc, List.set_append_left _ _ (by simpa using hi), Nat.zero_add, ← List.append_assoc, hc, List.map_set]
theorem word_at (wt : List UInt8) (i : Nat) (h : wt.length = 64) (hi : i < 16) (hl : 4 ≤ ((wt.take 64).drop (4 * i)).length) : word4 ((wt.take 64).drop (4 * i))[0] ((wt.take 64).drop (4 * i))[1] ((wt.take 64).drop (4 * i))[2] ((wt.take 64).drop (4 * i))[3] = word4 (wt.getD (4 * i) 0) (wt.getD (4 * i + 1) 0) (wt.getD (4 * i + 2) 0) (wt.getD (4 * i + 3) 0) := by
  have : ∀ j, j < 4 → ∀ (h2 : j < ((wt.take 64).drop (4 * i)).length), ((wt.take 64).drop (4 * i))[j] = wt.getD (4 * i + j) 0 := by
    intro j hj h2
    rw [List.getElem_drop, List.getElem_take]
    simp [List.getD, show 4 * i + j < wt.length by omega]
  rw [this 0 (by omega), this 1 (by omega), this 2 (by omega), this 3 (by omega)]; rfl


def addL (a b : List UInt32) (i : Nat) : List UInt32 := (List.zipWith (· + ·) (a.take i) (b.take i)) ++ a.drop i
theorem addL_len (a b : List UInt32) (i : Nat) (ha : a.length = 8) (hb : b.length = 8) (hi : i ≤ 8) : (addL a b i).length = 8 := by simp [addL, ha, hb]; omega
theorem addL_get (a b : List UInt32) (i : Nat) (ha : a.length = 8) (hb : b.length = 8) (hi : i < 8) : (addL a b i).getD i 0 = a.getD i 0 := by
  have hl : (List.zipWith (· + ·) (a.take i) (b.take i)).length = i := by simp [ha, hb]; omega
  simp only [addL, List.getD]
  rw [List.getElem?_append_right (by omega), hl, Nat.sub_self, List.getElem?_drop, Nat.add_zero]
theorem addL_succ (a b : List UInt32) (i : Nat) (ha : a.length = 8) (hb : b.length = 8) (hi : i < 8) : (addL a b i).set i (a.getD i 0 + b.getD i 0) = addL a b (i + 1) := by
  have hl : (List.zipWith (· + ·) (a.take i) (b.take i)).length = i := by simp [ha, hb]; omega
  unfold addL
  rw [List.set_append_right _ _ (by omega), hl, Nat.sub_self, List.drop_eq_getElem_cons (show i < a.length by omega), List.set_cons_zero, List.take_succ_eq_append_getElem (show i < a.length by omega), List.take_succ_eq_append_getElem (show i < b.length by omega), List.zipWith_append (by simp; omega), List.append_assoc]
  simp [List.getD, ha, hb, hi]

set_option maxHeartbeats 4000000 in
theorem block_ct (hb : Nat) (st : S8) (wt : List UInt8) (n : Nat) (al : UInt64) (w0 : World) (H0 : Heap)
    (hv : Var 127 H0 hb (hc st.list wt n al)) (hw : wt.length = 64) :
    Ct Tryd.prog w0 76 #[.pointer (some ⟨hb, 0, none⟩)] H0 (fun r H2 => r = .tuple #[] ∧ Var 127 H2 hb (hc (compress st wt).list wt 0 al) ∧ Mo (fun c => c = hb) H0 H2) := by
  refine Ct.enter (args := [.pointer (some ⟨hb, 0, none⟩)]) Tryd.func76 rfl rfl rfl ?_
  intro Q0 hret
  have hlt := hv.lt
  have hsl : st.list.length = 8 := rfl
  refine CW.seq (fun K1 hK1 hE1 => ?_)
  refine CW.region ?_
  refine LR.z (Z.allocv rfl Tryd.zeroValue107) (Wd.u rfl) rfl rfl (fun v2 H2 r2 => ?_)
  obtain ⟨rfl, va2, hs2, ob2, hH2⟩ := r2
  replace hv := hv.nw hs2
  replace va2 : Var 107 H2 H0.size ((List.replicate 64 (0 : UInt32)).map V32) := va2
  have hz2 : H2.size = H0.size + 1 := by rw [hH2]; simp
  refine LR.nil ?_
  refine hK1 _ _ ?_
  refine CW.seq (fun K2 hK2 hE2 => ?_)
  refine CW.seq (fun K3 hK3 hE3 => ?_)
  refine CW.region ?_
  refine LR.v (Y.move rfl rfl) (Wd.u rfl) rfl rfl ?_
  refine LR.nil ?_
  refine hK3 _ _ ?_
  refine CW.block (fun K4 hK4 hX4 hE4 => ?_)
  refine CW.loop (fun (s_ : (Nat) × (List UInt32)) => match s_ with | (i, w) => [(0, .pointer (some ⟨hb, 0, none⟩)), (2, .pointer (some ⟨H0.size, 0, none⟩)), (14, .int .i64 i)])
    (fun (s_ : (Nat) × (List UInt32)) (H : Heap) => match s_ with | (i, w) => i ≤ 16 ∧ w.length = 64 ∧ w.take i = first16 wt i ∧ Var 107 H H0.size (w.map V32) ∧ Mo (fun c => c = H0.size) H2 H)
    (fun (s_ : (Nat) × (List UInt32)) => match s_ with | (i, w) => 16 - i) (0, List.replicate 64 0) ⟨rfl, rfl, rfl, trivial⟩ ?_ ?_
  ·
    exact ⟨by omega, by simp, rfl, va2, Mo.refl _ _⟩
  rintro ⟨i, w⟩ H1 hI1 K5 hN5 hE5
  obtain ⟨hi, hwl, hwt, va2, hm⟩ := hI1
  replace hv := hv.up hm (by omega)
  refine CW.seq (fun K6 hK6 hE6 => ?_)
  refine CW.region ?_
  refine LR.v (Y.lss rfl rfl rfl) (Wd.u rfl) rfl rfl ?_
  refine LR.nil ?_
  refine hK6 _ _ ?_
  refine CW.seq (fun K7 hK7 hE7 => ?_)
  refine CW.condp rfl (fun c15 => ?_) (fun c15 => ?_)
  ·
    refine CW.skip ?_
    refine hK7 _ _ ?_
    refine CW.seq (fun K8 hK8 hE8 => ?_)
    refine CW.block (fun K9 hK9 hX9 hE9 => ?_)
    refine CW.seq (fun K10 hK10 hE10 => ?_)
    refine CW.region ?_
    refine LR.v (Y.move rfl rfl) (Wd.u rfl) rfl rfl ?_
    refine LR.v (Y.assign rfl rfl) (Wd.u rfl) rfl rfl ?_
    refine LR.nil ?_
    refine hK10 _ _ ?_
    refine CW.region ?_
    refine LR.v (Y.move rfl rfl) (Wd.u rfl) rfl rfl ?_
    refine LR.v (Y.move rfl rfl) (Wd.u rfl) rfl rfl ?_
    refine LR.v (Y.nilCheck rfl rfl) (Wd.u rfl) rfl rfl ?_
    refine LR.v (Y.fieldAddr hv.pt rfl Tryd.runUnderlying127 rfl rfl Tryd.sizeOf125 (by decide) rfl) (Wd.u rfl) rfl rfl ?_
    refine LR.v (Y.move rfl rfl) (Wd.u rfl) rfl rfl ?_
    refine LR.v (Y.muli rfl rfl rfl (by omega)) (Wd.u rfl) rfl rfl ?_
    refine LR.e (g := fun v => v) (Y.sliceArrE (F := fun c => c = hb) (f := fB) (xs := wt) (hv.pt.drop 8) rfl hv.lt (hw) (fun i x h => hc_wait hsl i x h) (4 * i) (64) rfl (fun w => .inl (Tryd.runUnderlying125 w)) Tryd.sizeOf5 rfl (.inr ⟨_, _, _, rfl, rfl, by first | rfl | omega⟩) (.inl ⟨rfl, rfl⟩) (by omega) (by omega) (by decide)) (Wd.u rfl) rfl rfl (fun v23 rd23 => ?_)
    -- call selvage/sum.word
    refine LR.call rfl Tryd.call87 rfl (Wd.u rfl) rfl rfl (word_ct _ _ w0 H1 rd23.any (by simp; omega)) (fun v24 H24 r24 => ?_)
    obtain ⟨rfl, rfl⟩ := r24
    rw [word_at wt i hw (by omega)]
    refine LR.v (Y.arrAddr va2.pt (i) rfl Tryd.runUnderlying107 Tryd.sizeOf106 rfl rfl (by first | rfl | omega) (by first | omega | (simp; omega) | (simp; done))) (Wd.u rfl) rfl rfl ?_
    refine LR.s (S.var1 va2 (0 + (i)) (_) rfl rfl rfl (rfl) Tryd.sizeOf106 (by simp; omega) (map_set w i _)) (Wd.u rfl) rfl (fun H4_9 r4_9 => ?_)
    obtain ⟨va2, hst⟩ := r4_9
    replace hv := hv.up hst (by omega)
    replace hm := hm.trans hst (fun _ _ e => e) (fun _ _ e => e)
    refine LR.nil ?_
    refine hK9 _ _ ?_
    refine hK8 _ _ ?_
    refine CW.region ?_
    refine LR.v (Y.addi rfl rfl rfl (by omega)) (Wd.u rfl) rfl rfl ?_
    refine LR.v (Y.move rfl rfl) (Wd.u rfl) rfl rfl ?_
    refine LR.nil ?_
    refine QN.sub (hN5 (i + 1, w.set i (word4 (wt.getD (4 * i) 0) (wt.getD (4 * i + 1) 0) (wt.getD (4 * i + 2) 0) (wt.getD (4 * i + 3) 0))) _ ?_ ?_) ⟨rfl, rfl, (iv (by omega)), trivial⟩
    · exact ⟨by omega, by simp [hwl], by rw [take_set_succ _ _ _ (by omega), first16_succ, hwt], va2, hm⟩
    · show 16 - (i + 1) < 16 - i; omega
  ·
    have hi16 : i = 16 := by omega
    subst hi16
    refine CW.exit (hE7 (.exit 0) nofun _ _ (hE5 (.exit 0) nofun _ _ (hX4 _ _ ?_)))
    refine hK2 _ _ ?_
    refine CW.seq (fun K11 hK11 hE11 => ?_)
    refine CW.seq (fun K12 hK12 hE12 => ?_)
    refine CW.region ?_
    refine LR.v (Y.assign rfl rfl) (Wd.u rfl) rfl rfl ?_
    refine LR.nil ?_
    refine hK12 _ _ ?_
    refine CW.block (fun K13 hK13 hX13 hE13 => ?_)
    refine CW.loop (fun (s_ : (Nat) × (List UInt32)) => match s_ with | (i, w) => [(0, .pointer (some ⟨hb, 0, none⟩)), (2, .pointer (some ⟨H0.size, 0, none⟩)), (4, .int .i64 i)])
      (fun (s_ : (Nat) × (List UInt32)) (H : Heap) => match s_ with | (i, w) => 16 ≤ i ∧ i ≤ 64 ∧ w.length = 64 ∧ w.take i = schedL (first16 wt 16) (i - 16) ∧ Var 107 H H0.size (w.map V32) ∧ Mo (fun c => c = H0.size) H1 H)
      (fun (s_ : (Nat) × (List UInt32)) => match s_ with | (i, w) => 64 - i) (16, w) ⟨rfl, rfl, rfl, trivial⟩ ?_ ?_
    ·
      exact ⟨by omega, by omega, hwl, hwt, va2, Mo.refl _ _⟩
    rintro ⟨i, w⟩ HL2 hI2 K14 hN14 hE14
    obtain ⟨hi0, hi, hwl, hwt, va2, hm2⟩ := hI2
    replace hv := hv.up hm2 (by omega)
    refine CW.seq (fun K15 hK15 hE15 => ?_)
    refine CW.seq (fun K16 hK16 hE16 => ?_)
    refine CW.region ?_
    refine LR.v (Y.move rfl rfl) (Wd.u rfl) rfl rfl ?_
    refine LR.v (Y.lss rfl rfl rfl) (Wd.u rfl) rfl rfl ?_
    refine LR.nil ?_
    refine hK16 _ _ ?_
    refine CW.condp rfl (fun c28 => ?_) (fun c28 => ?_)
    ·
      refine CW.skip ?_
      refine hK15 _ _ ?_
      refine CW.seq (fun K17 hK17 hE17 => ?_)
      refine CW.block (fun K18 hK18 hX18 hE18 => ?_)
      refine CW.seq (fun K19 hK19 hE19 => ?_)
      refine CW.region_draw rfl (by kernel_rfl) ?_
      refine LR.v (Y.move rfl rfl) (Wd.u rfl) rfl rfl ?_
      refine LR.v (Y.subi rfl rfl rfl (by omega)) (Wd.u rfl) rfl rfl ?_
      refine LR.v (Y.arrAddr va2.pt (i - 15) rfl Tryd.runUnderlying107 Tryd.sizeOf106 rfl rfl (by omega) (by first | omega | (simp; omega) | (simp; done))) (Wd.u rfl) rfl rfl ?_
      refine LR.v (Y.load1 (va2.pt.at (i - 15) (map_get w (i - 15) (by omega))) rfl Tryd.isAgg106 rfl) (Wd.u rfl) rfl rfl ?_
      refine LR.v (Y.move rfl rfl) (Wd.u rfl) rfl rfl ?_
      refine LR.v (Y.subi rfl rfl rfl (by omega)) (Wd.u rfl) rfl rfl ?_
      refine LR.v (Y.arrAddr va2.pt (i - 2) rfl Tryd.runUnderlying107 Tryd.sizeOf106 rfl rfl (by omega) (by first | omega | (simp; omega) | (simp; done))) (Wd.u rfl) rfl rfl ?_
      refine LR.v (Y.load1 (va2.pt.at (i - 2) (map_get w (i - 2) (by omega))) rfl Tryd.isAgg106 rfl) (Wd.u rfl) rfl rfl ?_
      refine LR.v (Y.assign rfl rfl) (Wd.u rfl) rfl rfl ?_
      refine LR.v (Y.assign rfl rfl) (Wd.u rfl) rfl rfl ?_
      refine LR.nil ?_
      refine hK19 _ _ ?_
      refine CW.region_any (fun Hq => Nw HL2 Hq) [29] rfl ?_
      have hqs := Nw.refl HL2
      refine LH.take 0 (by kernel_rfl) rfl (by kernel_rfl) (by kernel_rfl) (by kernel_rfl) (fun Hq hq => Y.move rfl rfl) (Wd.u rfl) rfl rfl hqs ?_
      refine LH.take 1 (by kernel_rfl) rfl (by kernel_rfl) (by kernel_rfl) (by kernel_rfl) (fun Hq hq => Y.move rfl rfl) (Wd.u rfl) rfl rfl hqs ?_
      refine LH.take 2 (by kernel_rfl) rfl (by kernel_rfl) (by kernel_rfl) (by kernel_rfl) (fun Hq hq => Y.subi rfl rfl rfl (by omega)) (Wd.u rfl) rfl rfl hqs ?_
      refine LH.take 3 (by kernel_rfl) rfl (by kernel_rfl) (by kernel_rfl) (by kernel_rfl) (fun Hq hq => Y.arrAddr (va2.pt.nw hq) (i - 16) rfl Tryd.runUnderlying107 Tryd.sizeOf106 rfl rfl (by omega) (by first | omega | (simp; omega) | (simp; done))) (Wd.u rfl) rfl rfl hqs ?_
      refine LH.take 4 (by kernel_rfl) rfl (by kernel_rfl) (by kernel_rfl) (by kernel_rfl) (fun Hq hq => Y.load1 ((va2.pt.at (i - 16) (map_get w (i - 16) (by omega))).nw hq) rfl Tryd.isAgg106 rfl) (Wd.u rfl) rfl rfl hqs ?_
      refine LH.take 5 (by kernel_rfl) rfl (by kernel_rfl) (by kernel_rfl) (by kernel_rfl) (fun Hq hq => Y.move rfl rfl) (Wd.u rfl) rfl rfl hqs ?_
      refine LH.take 7 (by kernel_rfl) rfl (by kernel_rfl) (by kernel_rfl) (by kernel_rfl) (fun Hq hq => Y.move rfl rfl) (Wd.u rfl) rfl rfl hqs ?_
      refine LH.take 10 (by kernel_rfl) rfl (by kernel_rfl) (by kernel_rfl) (by kernel_rfl) (fun Hq hq => Y.move rfl rfl) (Wd.u rfl) rfl rfl hqs ?_
      refine LH.take 11 (by kernel_rfl) rfl (by kernel_rfl) (by kernel_rfl) (by kernel_rfl) (fun Hq hq => Y.shr_u32 (3) rfl rfl rfl (by first | rfl | omega) (by omega)) (Wd.u rfl) rfl rfl hqs ?_
      refine LH.take 14 (by kernel_rfl) rfl (by kernel_rfl) (by kernel_rfl) (by kernel_rfl) (fun Hq hq => Y.move rfl rfl) (Wd.u rfl) rfl rfl hqs ?_
      refine LH.take 15 (by kernel_rfl) rfl (by kernel_rfl) (by kernel_rfl) (by kernel_rfl) (fun Hq hq => Y.subi rfl rfl rfl (by omega)) (Wd.u rfl) rfl rfl hqs ?_
      refine LH.take 16 (by kernel_rfl) rfl (by kernel_rfl) (by kernel_rfl) (by kernel_rfl) (fun Hq hq => Y.arrAddr (va2.pt.nw hq) (i - 7) rfl Tryd.runUnderlying107 Tryd.sizeOf106 rfl rfl (by omega) (by first | omega | (simp; omega) | (simp; done))) (Wd.u rfl) rfl rfl hqs ?_
      refine LH.take 17 (by kernel_rfl) rfl (by kernel_rfl) (by kernel_rfl) (by kernel_rfl) (fun Hq hq => Y.load1 ((va2.pt.at (i - 7) (map_get w (i - 7) (by omega))).nw hq) rfl Tryd.isAgg106 rfl) (Wd.u rfl) rfl rfl hqs ?_
      refine LH.take 19 (by kernel_rfl) rfl (by kernel_rfl) (by kernel_rfl) (by kernel_rfl) (fun Hq hq => Y.move rfl rfl) (Wd.u rfl) rfl rfl hqs ?_
      refine LH.take 21 (by kernel_rfl) rfl (by kernel_rfl) (by kernel_rfl) (by kernel_rfl) (fun Hq hq => Y.move rfl rfl) (Wd.u rfl) rfl rfl hqs ?_
      refine LH.take 24 (by kernel_rfl) rfl (by kernel_rfl) (by kernel_rfl) (by kernel_rfl) (fun Hq hq => Y.move rfl rfl) (Wd.u rfl) rfl rfl hqs ?_
      refine LH.take 25 (by kernel_rfl) rfl (by kernel_rfl) (by kernel_rfl) (by kernel_rfl) (fun Hq hq => Y.shr_u32 (10) rfl rfl rfl (by first | rfl | omega) (by omega)) (Wd.u rfl) rfl rfl hqs ?_
      refine LH.one (i := 6) (by kernel_rfl) ?_
      -- call selvage/sum.turn
      refine LO.call rfl rfl Tryd.call88 rfl (Wd.u rfl) rfl rfl (turn_ct _ 7 w0 _ (by omega) (by omega)) (fun v45 H45 r45 => ?_)
      obtain ⟨rfl, rfl⟩ := r45
      have hs45 := Nw.refl H45
      have hq45 := hqs.tr hs45
      refine ⟨.inr hq45, ?_⟩
      refine LH.one (i := 8) (by kernel_rfl) ?_
      -- call selvage/sum.turn
      refine LO.call rfl rfl Tryd.call88 rfl (Wd.u rfl) rfl rfl (turn_ct _ 18 w0 _ (by omega) (by omega)) (fun v47 H47 r47 => ?_)
      obtain ⟨rfl, rfl⟩ := r47
      have hs47 := Nw.refl H47
      have hq47 := hq45.tr hs47
      refine ⟨.inr hq47, ?_⟩
      refine LH.take 9 (by kernel_rfl) rfl (by kernel_rfl) (by kernel_rfl) (by kernel_rfl) (fun Hq hq => Y.xor_u32 rfl rfl rfl) (Wd.u rfl) rfl rfl hq47 ?_
      refine LH.take 12 (by kernel_rfl) rfl (by kernel_rfl) (by kernel_rfl) (by kernel_rfl) (fun Hq hq => Y.xor_u32 rfl rfl rfl) (Wd.u rfl) rfl rfl hq47 ?_
      refine LH.take 13 (by kernel_rfl) rfl (by kernel_rfl) (by kernel_rfl) (by kernel_rfl) (fun Hq hq => Y.add_u32 rfl rfl rfl) (Wd.u rfl) rfl rfl hq47 ?_
      refine LH.take 18 (by kernel_rfl) rfl (by kernel_rfl) (by kernel_rfl) (by kernel_rfl) (fun Hq hq => Y.add_u32 rfl rfl rfl) (Wd.u rfl) rfl rfl hq47 ?_
      refine LH.one (i := 20) (by kernel_rfl) ?_
      -- call selvage/sum.turn
      refine LO.call rfl rfl Tryd.call88 rfl (Wd.u rfl) rfl rfl (turn_ct _ 17 w0 _ (by omega) (by omega)) (fun v59 H59 r59 => ?_)
      obtain ⟨rfl, rfl⟩ := r59
      have hs59 := Nw.refl H59
      have hq59 := hq47.tr hs59
      refine ⟨.inr hq59, ?_⟩
      refine LH.one (i := 22) (by kernel_rfl) ?_
      -- call selvage/sum.turn
      refine LO.call rfl rfl Tryd.call88 rfl (Wd.u rfl) rfl rfl (turn_ct _ 19 w0 _ (by omega) (by omega)) (fun v61 H61 r61 => ?_)
      obtain ⟨rfl, rfl⟩ := r61
      have hs61 := Nw.refl H61
      have hq61 := hq59.tr hs61
      refine ⟨.inr hq61, ?_⟩
      refine LH.take 23 (by kernel_rfl) rfl (by kernel_rfl) (by kernel_rfl) (by kernel_rfl) (fun Hq hq => Y.xor_u32 rfl rfl rfl) (Wd.u rfl) rfl rfl hq61 ?_
      refine LH.take 26 (by kernel_rfl) rfl (by kernel_rfl) (by kernel_rfl) (by kernel_rfl) (fun Hq hq => Y.xor_u32 rfl rfl rfl) (Wd.u rfl) rfl rfl hq61 ?_
      refine LH.take 27 (by kernel_rfl) rfl (by kernel_rfl) (by kernel_rfl) (by kernel_rfl) (fun Hq hq => Y.add_u32 rfl rfl rfl) (Wd.u rfl) rfl rfl hq61 ?_
      refine LH.take 28 (by kernel_rfl) rfl (by kernel_rfl) (by kernel_rfl) (by kernel_rfl) (fun Hq hq => Y.arrAddr (va2.pt.nw hq) (i) rfl Tryd.runUnderlying107 Tryd.sizeOf106 rfl rfl (by first | rfl | omega) (by first | omega | (simp; omega) | (simp; done))) (Wd.u rfl) rfl rfl hq61 ?_
      refine LH.one (i := 29) (by kernel_rfl) ?_
      refine LO.s rfl (S.var1 va2 (0 + (i)) (_) rfl rfl rfl (rfl) Tryd.sizeOf106 (by simp; omega) (map_set w i _)) (Wd.u rfl) rfl (fun H10_29 r10_29 => ?_)
      obtain ⟨va2, hst⟩ := r10_29
      refine ⟨.inl rfl, ?_⟩
      refine LH.done (by kernel_rfl) ?_
      have hqe := hq61
      refine hK18 _ _ ?_
      refine hK17 _ _ ?_
      refine CW.region ?_
      refine LR.v (Y.move rfl rfl) (Wd.u rfl) rfl rfl ?_
      refine LR.v (Y.addi rfl rfl rfl (by omega)) (Wd.u rfl) rfl rfl ?_
      refine LR.v (Y.assign rfl rfl) (Wd.u rfl) rfl rfl ?_
      refine LR.nil ?_
      refine QN.sub (hN14 (i + 1, w.set i (nxt w i)) _ ?_ ?_) ⟨rfl, rfl, (iv (by omega)), trivial⟩
      · exact ⟨by omega, by omega, by simp [hwl], by rw [take_set_succ _ _ _ (by omega), hwt, show i + 1 - 16 = (i - 16) + 1 by omega, schedL, ← hwt, grow_take w i hi0 (by omega)], va2, hm2.trans hst (fun _ _ e => e) (fun _ _ e => e)⟩
      · show 64 - (i + 1) < 64 - i; omega
    ·
      have hi64 : i = 64 := by omega
      subst hi64
      rw [List.take_of_length_le (by omega)] at hwt
      refine CW.exit (hE15 (.exit 2) nofun _ _ (hE14 (.exit 2) nofun _ _ (hX13 _ _ ?_)))
      refine hK11 _ _ ?_
      refine CW.seq (fun K20 hK20 hE20 => ?_)
      refine CW.region ?_
      refine LR.v (Y.move rfl rfl) (Wd.u rfl) rfl rfl ?_
      refine LR.v (Y.nilCheck rfl rfl) (Wd.u rfl) rfl rfl ?_
      refine LR.v (Y.fieldAddr hv.pt rfl Tryd.runUnderlying127 rfl rfl Tryd.sizeOf108 (by decide) rfl) (Wd.u rfl) rfl rfl ?_
      refine LR.v (Y.loadN (hv.pt.take 8) rfl Tryd.isAgg108 Tryd.sizeOf108 (rfl) rfl) (Wd.u rfl) rfl rfl ?_
      have hlt2 := va2.lt
      refine LR.z (Z.allocv rfl Tryd.zeroValue108) (Wd.u rfl) rfl rfl (fun v7 H7 r7 => ?_)
      obtain ⟨rfl, va7, hs7, ob7, hH7⟩ := r7
      replace hv := hv.nw hs7
      replace va2 := va2.nw hs7
      refine LR.s (S.var va7 (st.cells) (st.cells) rfl rfl rfl rfl (by simp [Value.oneCell']) Tryd.sizeOf108 (rfl) (Nat.le_of_ble_eq_true rfl) (rfl)) (Wd.u rfl) rfl (fun H11_5 r11_5 => ?_)
      obtain ⟨va7, hs11⟩ := r11_5
      replace hv := hv.up hs11 (by omega)
      replace va2 := va2.up hs11 (by omega)
      refine LR.nil ?_
      refine hK20 _ _ ?_
      refine CW.seq (fun K21 hK21 hE21 => ?_)
      refine CW.seq (fun K22 hK22 hE22 => ?_)
      refine CW.region ?_
      -- call selvage/sum.rounds
      refine LR.call rfl Tryd.call89 rfl (Wd.u rfl) rfl rfl (rounds_ct w0 _) (fun v72 H72 r72 => ?_)
      obtain ⟨rfl, hs72⟩ := r72
      replace hv := hv.nw hs72
      replace va2 := va2.nw hs72
      replace va7 := va7.nw hs72
      refine LR.v (Y.move rfl rfl) (Wd.u rfl) rfl rfl ?_
      refine LR.nil ?_
      refine hK22 _ _ ?_
      refine CW.block (fun K23 hK23 hX23 hE23 => ?_)
      refine CW.loop (fun (s_ : (Nat) × (S8)) => match s_ with | (i, q) => [(0, .pointer (some ⟨hb, 0, none⟩)), (2, .pointer (some ⟨H0.size, 0, none⟩)), (7, .pointer (some ⟨HL2.size, 0, none⟩)), (72, .agg (KS.map V32).toArray), (73, .int .i64 i)])
        (fun (s_ : (Nat) × (S8)) (H : Heap) => match s_ with | (i, q) => i ≤ 64 ∧ q = rndN st w i ∧ Var 108 H HL2.size q.cells ∧ Mo (fun c => c = HL2.size) H72 H)
        (fun (s_ : (Nat) × (S8)) => match s_ with | (i, q) => 64 - i) (0, st) ⟨rfl, rfl, rfl, rfl, rfl, trivial⟩ ?_ ?_
      ·
        exact ⟨by omega, rfl, va7, Mo.refl _ _⟩
      rintro ⟨i, q⟩ HL3 hI3 K24 hN24 hE24
      obtain ⟨hi3, hq3, va7, hm3⟩ := hI3
      replace hv := hv.up hm3 (by omega)
      replace va2 := va2.up hm3 (by omega)
      refine CW.seq (fun K25 hK25 hE25 => ?_)
      refine CW.region ?_
      refine LR.v (Y.lss rfl rfl rfl) (Wd.u rfl) rfl rfl ?_
      refine LR.nil ?_
      refine hK25 _ _ ?_
      refine CW.seq (fun K26 hK26 hE26 => ?_)
      refine CW.condp rfl (fun c74 => ?_) (fun c74 => ?_)
      ·
        refine CW.skip ?_
        refine hK26 _ _ ?_
        refine CW.seq (fun K27 hK27 hE27 => ?_)
        refine CW.block (fun K28 hK28 hX28 hE28 => ?_)
        refine CW.seq (fun K29 hK29 hE29 => ?_)
        refine CW.region ?_
        refine LR.v (Y.move rfl rfl) (Wd.u rfl) rfl rfl ?_
        refine LR.v (Y.arrIndex (i) rfl Tryd.runUnderlying107 Tryd.sizeOf106 Tryd.isAgg106 rfl rfl (by first | rfl | omega) (by omega) (by rw [List.getElem?_toArray]; exact map_get KS i (by simp [KS]; omega))) (Wd.u rfl) rfl rfl ?_
        refine LR.v (Y.assign rfl rfl) (Wd.u rfl) rfl rfl ?_
        refine LR.v (Y.assign rfl rfl) (Wd.u rfl) rfl rfl ?_
        refine LR.nil ?_
        refine hK29 _ _ ?_
        refine CW.seq (fun K30 hK30 hE30 => ?_)
        refine CW.region_any (fun Hq => Nw HL3 Hq) [] rfl ?_
        have hqs := Nw.refl HL3
        refine LH.take 0 (by kernel_rfl) rfl (by kernel_rfl) (by kernel_rfl) (by kernel_rfl) (fun Hq hq => Y.arrAddr (va7.pt.nw hq) (7) rfl Tryd.runUnderlying108 Tryd.sizeOf106 rfl rfl (by first | rfl | omega) (by first | omega | (simp; omega) | (simp; done))) (Wd.u rfl) rfl rfl hqs ?_
        refine LH.take 1 (by kernel_rfl) rfl (by kernel_rfl) (by kernel_rfl) (by kernel_rfl) (fun Hq hq => Y.load1 ((va7.pt.drop 7).nw hq) rfl Tryd.isAgg106 rfl) (Wd.u rfl) rfl rfl hqs ?_
        refine LH.take 2 (by kernel_rfl) rfl (by kernel_rfl) (by kernel_rfl) (by kernel_rfl) (fun Hq hq => Y.arrAddr (va7.pt.nw hq) (4) rfl Tryd.runUnderlying108 Tryd.sizeOf106 rfl rfl (by first | rfl | omega) (by first | omega | (simp; omega) | (simp; done))) (Wd.u rfl) rfl rfl hqs ?_
        refine LH.take 3 (by kernel_rfl) rfl (by kernel_rfl) (by kernel_rfl) (by kernel_rfl) (fun Hq hq => Y.load1 ((va7.pt.drop 4).nw hq) rfl Tryd.isAgg106 rfl) (Wd.u rfl) rfl rfl hqs ?_
        refine LH.take 5 (by kernel_rfl) rfl (by kernel_rfl) (by kernel_rfl) (by kernel_rfl) (fun Hq hq => Y.arrAddr (va7.pt.nw hq) (4) rfl Tryd.runUnderlying108 Tryd.sizeOf106 rfl rfl (by first | rfl | omega) (by first | omega | (simp; omega) | (simp; done))) (Wd.u rfl) rfl rfl hqs ?_
        refine LH.take 6 (by kernel_rfl) rfl (by kernel_rfl) (by kernel_rfl) (by kernel_rfl) (fun Hq hq => Y.load1 ((va7.pt.drop 4).nw hq) rfl Tryd.isAgg106 rfl) (Wd.u rfl) rfl rfl hqs ?_
        refine LH.take 9 (by kernel_rfl) rfl (by kernel_rfl) (by kernel_rfl) (by kernel_rfl) (fun Hq hq => Y.arrAddr (va7.pt.nw hq) (4) rfl Tryd.runUnderlying108 Tryd.sizeOf106 rfl rfl (by first | rfl | omega) (by first | omega | (simp; omega) | (simp; done))) (Wd.u rfl) rfl rfl hqs ?_
        refine LH.take 10 (by kernel_rfl) rfl (by kernel_rfl) (by kernel_rfl) (by kernel_rfl) (fun Hq hq => Y.load1 ((va7.pt.drop 4).nw hq) rfl Tryd.isAgg106 rfl) (Wd.u rfl) rfl rfl hqs ?_
        refine LH.take 14 (by kernel_rfl) rfl (by kernel_rfl) (by kernel_rfl) (by kernel_rfl) (fun Hq hq => Y.arrAddr (va7.pt.nw hq) (4) rfl Tryd.runUnderlying108 Tryd.sizeOf106 rfl rfl (by first | rfl | omega) (by first | omega | (simp; omega) | (simp; done))) (Wd.u rfl) rfl rfl hqs ?_
        refine LH.take 15 (by kernel_rfl) rfl (by kernel_rfl) (by kernel_rfl) (by kernel_rfl) (fun Hq hq => Y.load1 ((va7.pt.drop 4).nw hq) rfl Tryd.isAgg106 rfl) (Wd.u rfl) rfl rfl hqs ?_
        refine LH.take 16 (by kernel_rfl) rfl (by kernel_rfl) (by kernel_rfl) (by kernel_rfl) (fun Hq hq => Y.arrAddr (va7.pt.nw hq) (5) rfl Tryd.runUnderlying108 Tryd.sizeOf106 rfl rfl (by first | rfl | omega) (by first | omega | (simp; omega) | (simp; done))) (Wd.u rfl) rfl rfl hqs ?_
        refine LH.take 17 (by kernel_rfl) rfl (by kernel_rfl) (by kernel_rfl) (by kernel_rfl) (fun Hq hq => Y.load1 ((va7.pt.drop 5).nw hq) rfl Tryd.isAgg106 rfl) (Wd.u rfl) rfl rfl hqs ?_
        refine LH.take 18 (by kernel_rfl) rfl (by kernel_rfl) (by kernel_rfl) (by kernel_rfl) (fun Hq hq => Y.and_u32 rfl rfl rfl) (Wd.u rfl) rfl rfl hqs ?_
        refine LH.take 19 (by kernel_rfl) rfl (by kernel_rfl) (by kernel_rfl) (by kernel_rfl) (fun Hq hq => Y.arrAddr (va7.pt.nw hq) (4) rfl Tryd.runUnderlying108 Tryd.sizeOf106 rfl rfl (by first | rfl | omega) (by first | omega | (simp; omega) | (simp; done))) (Wd.u rfl) rfl rfl hqs ?_
        refine LH.take 20 (by kernel_rfl) rfl (by kernel_rfl) (by kernel_rfl) (by kernel_rfl) (fun Hq hq => Y.load1 ((va7.pt.drop 4).nw hq) rfl Tryd.isAgg106 rfl) (Wd.u rfl) rfl rfl hqs ?_
        refine LH.take 21 (by kernel_rfl) rfl (by kernel_rfl) (by kernel_rfl) (by kernel_rfl) (fun Hq hq => Y.not_u32 rfl rfl) (Wd.u rfl) rfl rfl hqs ?_
        refine LH.take 22 (by kernel_rfl) rfl (by kernel_rfl) (by kernel_rfl) (by kernel_rfl) (fun Hq hq => Y.arrAddr (va7.pt.nw hq) (6) rfl Tryd.runUnderlying108 Tryd.sizeOf106 rfl rfl (by first | rfl | omega) (by first | omega | (simp; omega) | (simp; done))) (Wd.u rfl) rfl rfl hqs ?_
        refine LH.take 23 (by kernel_rfl) rfl (by kernel_rfl) (by kernel_rfl) (by kernel_rfl) (fun Hq hq => Y.load1 ((va7.pt.drop 6).nw hq) rfl Tryd.isAgg106 rfl) (Wd.u rfl) rfl rfl hqs ?_
        refine LH.take 24 (by kernel_rfl) rfl (by kernel_rfl) (by kernel_rfl) (by kernel_rfl) (fun Hq hq => Y.and_u32 rfl rfl rfl) (Wd.u rfl) rfl rfl hqs ?_
        refine LH.take 25 (by kernel_rfl) rfl (by kernel_rfl) (by kernel_rfl) (by kernel_rfl) (fun Hq hq => Y.xor_u32 rfl rfl rfl) (Wd.u rfl) rfl rfl hqs ?_
        refine LH.take 27 (by kernel_rfl) rfl (by kernel_rfl) (by kernel_rfl) (by kernel_rfl) (fun Hq hq => Y.move rfl rfl) (Wd.u rfl) rfl rfl hqs ?_
        refine LH.take 29 (by kernel_rfl) rfl (by kernel_rfl) (by kernel_rfl) (by kernel_rfl) (fun Hq hq => Y.move rfl rfl) (Wd.u rfl) rfl rfl hqs ?_
        refine LH.take 30 (by kernel_rfl) rfl (by kernel_rfl) (by kernel_rfl) (by kernel_rfl) (fun Hq hq => Y.arrAddr (va2.pt.nw hq) (i) rfl Tryd.runUnderlying107 Tryd.sizeOf106 rfl rfl (by first | rfl | omega) (by first | omega | (simp; omega) | (simp; done))) (Wd.u rfl) rfl rfl hqs ?_
        refine LH.take 31 (by kernel_rfl) rfl (by kernel_rfl) (by kernel_rfl) (by kernel_rfl) (fun Hq hq => Y.load1 ((va2.pt.at (i) (map_get w i (by omega))).nw hq) rfl Tryd.isAgg106 rfl) (Wd.u rfl) rfl rfl hqs ?_
        refine LH.one (i := 4) (by kernel_rfl) ?_
        -- call selvage/sum.turn
        refine LO.call rfl rfl Tryd.call88 rfl (Wd.u rfl) rfl rfl (turn_ct _ 6 w0 _ (by omega) (by omega)) (fun v81 H81 r81 => ?_)
        obtain ⟨rfl, rfl⟩ := r81
        have hs81 := Nw.refl H81
        have hq81 := hqs.tr hs81
        refine ⟨.inr hq81, ?_⟩
        refine LH.one (i := 7) (by kernel_rfl) ?_
        -- call selvage/sum.turn
        refine LO.call rfl rfl Tryd.call88 rfl (Wd.u rfl) rfl rfl (turn_ct _ 11 w0 _ (by omega) (by omega)) (fun v84 H84 r84 => ?_)
        obtain ⟨rfl, rfl⟩ := r84
        have hs84 := Nw.refl H84
        have hq84 := hq81.tr hs84
        refine ⟨.inr hq84, ?_⟩
        refine LH.take 8 (by kernel_rfl) rfl (by kernel_rfl) (by kernel_rfl) (by kernel_rfl) (fun Hq hq => Y.xor_u32 rfl rfl rfl) (Wd.u rfl) rfl rfl hq84 ?_
        refine LH.one (i := 11) (by kernel_rfl) ?_
        -- call selvage/sum.turn
        refine LO.call rfl rfl Tryd.call88 rfl (Wd.u rfl) rfl rfl (turn_ct _ 25 w0 _ (by omega) (by omega)) (fun v88 H88 r88 => ?_)
        obtain ⟨rfl, rfl⟩ := r88
        have hs88 := Nw.refl H88
        have hq88 := hq84.tr hs88
        refine ⟨.inr hq88, ?_⟩
        refine LH.take 12 (by kernel_rfl) rfl (by kernel_rfl) (by kernel_rfl) (by kernel_rfl) (fun Hq hq => Y.xor_u32 rfl rfl rfl) (Wd.u rfl) rfl rfl hq88 ?_
        refine LH.take 13 (by kernel_rfl) rfl (by kernel_rfl) (by kernel_rfl) (by kernel_rfl) (fun Hq hq => Y.add_u32 rfl rfl rfl) (Wd.u rfl) rfl rfl hq88 ?_
        refine LH.take 26 (by kernel_rfl) rfl (by kernel_rfl) (by kernel_rfl) (by kernel_rfl) (fun Hq hq => Y.add_u32 rfl rfl rfl) (Wd.u rfl) rfl rfl hq88 ?_
        refine LH.take 28 (by kernel_rfl) rfl (by kernel_rfl) (by kernel_rfl) (by kernel_rfl) (fun Hq hq => Y.add_u32 rfl rfl rfl) (Wd.u rfl) rfl rfl hq88 ?_
        refine LH.take 32 (by kernel_rfl) rfl (by kernel_rfl) (by kernel_rfl) (by kernel_rfl) (fun Hq hq => Y.add_u32 rfl rfl rfl) (Wd.u rfl) rfl rfl hq88 ?_
        refine LH.take 33 (by kernel_rfl) rfl (by kernel_rfl) (by kernel_rfl) (by kernel_rfl) (fun Hq hq => Y.assign rfl rfl) (Wd.u rfl) rfl rfl hq88 ?_
        refine LH.done (by kernel_rfl) ?_
        have hqe := hq88
        refine hK30 _ _ ?_
        refine CW.seq (fun K31 hK31 hE31 => ?_)
        refine CW.region_any (fun Hq => Nw H88 Hq) [] rfl ?_
        have hqs := Nw.refl H88
        refine LH.take 0 (by kernel_rfl) rfl (by kernel_rfl) (by kernel_rfl) (by kernel_rfl) (fun Hq hq => Y.arrAddr (va7.pt.nw hq) (0) rfl Tryd.runUnderlying108 Tryd.sizeOf106 rfl rfl (by first | rfl | omega) (by first | omega | (simp; omega) | (simp; done))) (Wd.u rfl) rfl rfl hqs ?_
        refine LH.take 1 (by kernel_rfl) rfl (by kernel_rfl) (by kernel_rfl) (by kernel_rfl) (fun Hq hq => Y.load1 (va7.pt.nw hq) rfl Tryd.isAgg106 rfl) (Wd.u rfl) rfl rfl hqs ?_
        refine LH.take 3 (by kernel_rfl) rfl (by kernel_rfl) (by kernel_rfl) (by kernel_rfl) (fun Hq hq => Y.arrAddr (va7.pt.nw hq) (0) rfl Tryd.runUnderlying108 Tryd.sizeOf106 rfl rfl (by first | rfl | omega) (by first | omega | (simp; omega) | (simp; done))) (Wd.u rfl) rfl rfl hqs ?_
        refine LH.take 4 (by kernel_rfl) rfl (by kernel_rfl) (by kernel_rfl) (by kernel_rfl) (fun Hq hq => Y.load1 (va7.pt.nw hq) rfl Tryd.isAgg106 rfl) (Wd.u rfl) rfl rfl hqs ?_
        refine LH.take 7 (by kernel_rfl) rfl (by kernel_rfl) (by kernel_rfl) (by kernel_rfl) (fun Hq hq => Y.arrAddr (va7.pt.nw hq) (0) rfl Tryd.runUnderlying108 Tryd.sizeOf106 rfl rfl (by first | rfl | omega) (by first | omega | (simp; omega) | (simp; done))) (Wd.u rfl) rfl rfl hqs ?_
        refine LH.take 8 (by kernel_rfl) rfl (by kernel_rfl) (by kernel_rfl) (by kernel_rfl) (fun Hq hq => Y.load1 (va7.pt.nw hq) rfl Tryd.isAgg106 rfl) (Wd.u rfl) rfl rfl hqs ?_
        refine LH.take 11 (by kernel_rfl) rfl (by kernel_rfl) (by kernel_rfl) (by kernel_rfl) (fun Hq hq => Y.arrAddr (va7.pt.nw hq) (0) rfl Tryd.runUnderlying108 Tryd.sizeOf106 rfl rfl (by first | rfl | omega) (by first | omega | (simp; omega) | (simp; done))) (Wd.u rfl) rfl rfl hqs ?_
        refine LH.take 12 (by kernel_rfl) rfl (by kernel_rfl) (by kernel_rfl) (by kernel_rfl) (fun Hq hq => Y.load1 (va7.pt.nw hq) rfl Tryd.isAgg106 rfl) (Wd.u rfl) rfl rfl hqs ?_
        refine LH.take 13 (by kernel_rfl) rfl (by kernel_rfl) (by kernel_rfl) (by kernel_rfl) (fun Hq hq => Y.arrAddr (va7.pt.nw hq) (1) rfl Tryd.runUnderlying108 Tryd.sizeOf106 rfl rfl (by first | rfl | omega) (by first | omega | (simp; omega) | (simp; done))) (Wd.u rfl) rfl rfl hqs ?_
        refine LH.take 14 (by kernel_rfl) rfl (by kernel_rfl) (by kernel_rfl) (by kernel_rfl) (fun Hq hq => Y.load1 ((va7.pt.drop 1).nw hq) rfl Tryd.isAgg106 rfl) (Wd.u rfl) rfl rfl hqs ?_
        refine LH.take 15 (by kernel_rfl) rfl (by kernel_rfl) (by kernel_rfl) (by kernel_rfl) (fun Hq hq => Y.and_u32 rfl rfl rfl) (Wd.u rfl) rfl rfl hqs ?_
        refine LH.take 16 (by kernel_rfl) rfl (by kernel_rfl) (by kernel_rfl) (by kernel_rfl) (fun Hq hq => Y.arrAddr (va7.pt.nw hq) (0) rfl Tryd.runUnderlying108 Tryd.sizeOf106 rfl rfl (by first | rfl | omega) (by first | omega | (simp; omega) | (simp; done))) (Wd.u rfl) rfl rfl hqs ?_
        refine LH.take 17 (by kernel_rfl) rfl (by kernel_rfl) (by kernel_rfl) (by kernel_rfl) (fun Hq hq => Y.load1 (va7.pt.nw hq) rfl Tryd.isAgg106 rfl) (Wd.u rfl) rfl rfl hqs ?_
        refine LH.take 18 (by kernel_rfl) rfl (by kernel_rfl) (by kernel_rfl) (by kernel_rfl) (fun Hq hq => Y.arrAddr (va7.pt.nw hq) (2) rfl Tryd.runUnderlying108 Tryd.sizeOf106 rfl rfl (by first | rfl | omega) (by first | omega | (simp; omega) | (simp; done))) (Wd.u rfl) rfl rfl hqs ?_
        refine LH.take 19 (by kernel_rfl) rfl (by kernel_rfl) (by kernel_rfl) (by kernel_rfl) (fun Hq hq => Y.load1 ((va7.pt.drop 2).nw hq) rfl Tryd.isAgg106 rfl) (Wd.u rfl) rfl rfl hqs ?_
        refine LH.take 20 (by kernel_rfl) rfl (by kernel_rfl) (by kernel_rfl) (by kernel_rfl) (fun Hq hq => Y.and_u32 rfl rfl rfl) (Wd.u rfl) rfl rfl hqs ?_
        refine LH.take 21 (by kernel_rfl) rfl (by kernel_rfl) (by kernel_rfl) (by kernel_rfl) (fun Hq hq => Y.xor_u32 rfl rfl rfl) (Wd.u rfl) rfl rfl hqs ?_
        refine LH.take 22 (by kernel_rfl) rfl (by kernel_rfl) (by kernel_rfl) (by kernel_rfl) (fun Hq hq => Y.arrAddr (va7.pt.nw hq) (1) rfl Tryd.runUnderlying108 Tryd.sizeOf106 rfl rfl (by first | rfl | omega) (by first | omega | (simp; omega) | (simp; done))) (Wd.u rfl) rfl rfl hqs ?_
        refine LH.take 23 (by kernel_rfl) rfl (by kernel_rfl) (by kernel_rfl) (by kernel_rfl) (fun Hq hq => Y.load1 ((va7.pt.drop 1).nw hq) rfl Tryd.isAgg106 rfl) (Wd.u rfl) rfl rfl hqs ?_
        refine LH.take 24 (by kernel_rfl) rfl (by kernel_rfl) (by kernel_rfl) (by kernel_rfl) (fun Hq hq => Y.arrAddr (va7.pt.nw hq) (2) rfl Tryd.runUnderlying108 Tryd.sizeOf106 rfl rfl (by first | rfl | omega) (by first | omega | (simp; omega) | (simp; done))) (Wd.u rfl) rfl rfl hqs ?_
        refine LH.take 25 (by kernel_rfl) rfl (by kernel_rfl) (by kernel_rfl) (by kernel_rfl) (fun Hq hq => Y.load1 ((va7.pt.drop 2).nw hq) rfl Tryd.isAgg106 rfl) (Wd.u rfl) rfl rfl hqs ?_
        refine LH.take 26 (by kernel_rfl) rfl (by kernel_rfl) (by kernel_rfl) (by kernel_rfl) (fun Hq hq => Y.and_u32 rfl rfl rfl) (Wd.u rfl) rfl rfl hqs ?_
        refine LH.take 27 (by kernel_rfl) rfl (by kernel_rfl) (by kernel_rfl) (by kernel_rfl) (fun Hq hq => Y.xor_u32 rfl rfl rfl) (Wd.u rfl) rfl rfl hqs ?_
        refine LH.one (i := 2) (by kernel_rfl) ?_
        -- call selvage/sum.turn
        refine LO.call rfl rfl Tryd.call88 rfl (Wd.u rfl) rfl rfl (turn_ct _ 2 w0 _ (by omega) (by omega)) (fun v112 H112 r112 => ?_)
        obtain ⟨rfl, rfl⟩ := r112
        have hs112 := Nw.refl H112
        have hq112 := hqs.tr hs112
        refine ⟨.inr hq112, ?_⟩
        refine LH.one (i := 5) (by kernel_rfl) ?_
        -- call selvage/sum.turn
        refine LO.call rfl rfl Tryd.call88 rfl (Wd.u rfl) rfl rfl (turn_ct _ 13 w0 _ (by omega) (by omega)) (fun v115 H115 r115 => ?_)
        obtain ⟨rfl, rfl⟩ := r115
        have hs115 := Nw.refl H115
        have hq115 := hq112.tr hs115
        refine ⟨.inr hq115, ?_⟩
        refine LH.take 6 (by kernel_rfl) rfl (by kernel_rfl) (by kernel_rfl) (by kernel_rfl) (fun Hq hq => Y.xor_u32 rfl rfl rfl) (Wd.u rfl) rfl rfl hq115 ?_
        refine LH.one (i := 9) (by kernel_rfl) ?_
        -- call selvage/sum.turn
        refine LO.call rfl rfl Tryd.call88 rfl (Wd.u rfl) rfl rfl (turn_ct _ 22 w0 _ (by omega) (by omega)) (fun v119 H119 r119 => ?_)
        obtain ⟨rfl, rfl⟩ := r119
        have hs119 := Nw.refl H119
        have hq119 := hq115.tr hs119
        refine ⟨.inr hq119, ?_⟩
        refine LH.take 10 (by kernel_rfl) rfl (by kernel_rfl) (by kernel_rfl) (by kernel_rfl) (fun Hq hq => Y.xor_u32 rfl rfl rfl) (Wd.u rfl) rfl rfl hq119 ?_
        refine LH.take 28 (by kernel_rfl) rfl (by kernel_rfl) (by kernel_rfl) (by kernel_rfl) (fun Hq hq => Y.add_u32 rfl rfl rfl) (Wd.u rfl) rfl rfl hq119 ?_
        refine LH.take 29 (by kernel_rfl) rfl (by kernel_rfl) (by kernel_rfl) (by kernel_rfl) (fun Hq hq => Y.assign rfl rfl) (Wd.u rfl) rfl rfl hq119 ?_
        refine LH.done (by kernel_rfl) ?_
        have hqe := hq119
        refine hK31 _ _ ?_
        refine CW.region ?_
        refine LR.v (Y.move rfl rfl) (Wd.u rfl) rfl rfl ?_
        refine LR.v (Y.move rfl rfl) (Wd.u rfl) rfl rfl ?_
        refine LR.v (Y.add_u32 rfl rfl rfl) (Wd.u rfl) rfl rfl ?_
        refine LR.v (Y.arrAddr va7.pt (0) rfl Tryd.runUnderlying108 Tryd.sizeOf106 rfl rfl (by first | rfl | omega) (by first | omega | (simp; omega) | (simp; done))) (Wd.u rfl) rfl rfl ?_
        refine LR.v (Y.load1 va7.pt rfl Tryd.isAgg106 rfl) (Wd.u rfl) rfl rfl ?_
        refine LR.v (Y.arrAddr va7.pt (1) rfl Tryd.runUnderlying108 Tryd.sizeOf106 rfl rfl (by first | rfl | omega) (by first | omega | (simp; omega) | (simp; done))) (Wd.u rfl) rfl rfl ?_
        refine LR.v (Y.load1 (va7.pt.drop 1) rfl Tryd.isAgg106 rfl) (Wd.u rfl) rfl rfl ?_
        refine LR.v (Y.arrAddr va7.pt (2) rfl Tryd.runUnderlying108 Tryd.sizeOf106 rfl rfl (by first | rfl | omega) (by first | omega | (simp; omega) | (simp; done))) (Wd.u rfl) rfl rfl ?_
        refine LR.v (Y.load1 (va7.pt.drop 2) rfl Tryd.isAgg106 rfl) (Wd.u rfl) rfl rfl ?_
        refine LR.v (Y.arrAddr va7.pt (3) rfl Tryd.runUnderlying108 Tryd.sizeOf106 rfl rfl (by first | rfl | omega) (by first | omega | (simp; omega) | (simp; done))) (Wd.u rfl) rfl rfl ?_
        refine LR.v (Y.load1 (va7.pt.drop 3) rfl Tryd.isAgg106 rfl) (Wd.u rfl) rfl rfl ?_
        refine LR.v (Y.move rfl rfl) (Wd.u rfl) rfl rfl ?_
        refine LR.v (Y.add_u32 rfl rfl rfl) (Wd.u rfl) rfl rfl ?_
        refine LR.v (Y.arrAddr va7.pt (4) rfl Tryd.runUnderlying108 Tryd.sizeOf106 rfl rfl (by first | rfl | omega) (by first | omega | (simp; omega) | (simp; done))) (Wd.u rfl) rfl rfl ?_
        refine LR.v (Y.load1 (va7.pt.drop 4) rfl Tryd.isAgg106 rfl) (Wd.u rfl) rfl rfl ?_
        refine LR.v (Y.arrAddr va7.pt (5) rfl Tryd.runUnderlying108 Tryd.sizeOf106 rfl rfl (by first | rfl | omega) (by first | omega | (simp; omega) | (simp; done))) (Wd.u rfl) rfl rfl ?_
        refine LR.v (Y.load1 (va7.pt.drop 5) rfl Tryd.isAgg106 rfl) (Wd.u rfl) rfl rfl ?_
        refine LR.v (Y.arrAddr va7.pt (6) rfl Tryd.runUnderlying108 Tryd.sizeOf106 rfl rfl (by first | rfl | omega) (by first | omega | (simp; omega) | (simp; done))) (Wd.u rfl) rfl rfl ?_
        refine LR.v (Y.load1 (va7.pt.drop 6) rfl Tryd.isAgg106 rfl) (Wd.u rfl) rfl rfl ?_
        refine LR.v (Y.build (v := .agg (rnd q (KS.getD i 0) (w.getD i 0)).cells.toArray) rfl rfl (by intro w; kernel_rfl)) (Wd.u rfl) rfl rfl ?_
        refine LR.s (S.var va7 ((rnd q (KS.getD i 0) (w.getD i 0)).cells) ((rnd q (KS.getD i 0) (w.getD i 0)).cells) rfl rfl rfl rfl (by simp [Value.oneCell']) Tryd.sizeOf108 (rfl) (Nat.le_of_ble_eq_true rfl) (rfl)) (Wd.u rfl) rfl (fun H17_20 r17_20 => ?_)
        obtain ⟨va7, hst17⟩ := r17_20
        refine LR.nil ?_
        refine hK28 _ _ ?_
        refine hK27 _ _ ?_
        refine CW.region ?_
        refine LR.v (Y.addi rfl rfl rfl (by omega)) (Wd.u rfl) rfl rfl ?_
        refine LR.v (Y.move rfl rfl) (Wd.u rfl) rfl rfl ?_
        refine LR.nil ?_
        refine QN.sub (hN24 (i + 1, rnd q (KS.getD i 0) (w.getD i 0)) _ ?_ ?_) ⟨rfl, rfl, rfl, rfl, (iv (by omega)), trivial⟩
        · exact ⟨by omega, by rw [hq3]; rfl, va7, hm3.trans hst17 (fun _ _ e => e) (fun _ _ e => e)⟩
        · show 64 - (i + 1) < 64 - i; omega
      ·
        have hi64 : i = 64 := by omega
        subst hi64
        rw [hwt] at hq3
        have hcm : (add8 st q).list = (compress st wt).list := by rw [hq3]; rfl
        refine CW.exit (hE26 (.exit 4) nofun _ _ (hE24 (.exit 4) nofun _ _ (hX23 _ _ ?_)))
        refine hK21 _ _ ?_
        refine CW.seq (fun K32 hK32 hE32 => ?_)
        refine CW.seq (fun K33 hK33 hE33 => ?_)
        refine CW.region ?_
        refine LR.v (Y.loadN va7.pt rfl Tryd.isAgg108 Tryd.sizeOf108 (rfl) rfl) (Wd.u rfl) rfl rfl ?_
        refine LR.v (Y.move rfl rfl) (Wd.u rfl) rfl rfl ?_
        refine LR.nil ?_
        refine hK33 _ _ ?_
        refine CW.block (fun K34 hK34 hX34 hE34 => ?_)
        refine CW.loop (fun (i : (Nat)) => [(0, .pointer (some ⟨hb, 0, none⟩)), (160, .agg q.cells.toArray), (161, .int .i64 i)])
          (fun (i : (Nat)) (H : Heap) => i ≤ 8 ∧ Var 127 H hb (hc (addL st.list q.list i) wt n al) ∧ Mo (fun c => c = hb) HL3 H)
          (fun (i : (Nat)) => 8 - i) 0 ⟨rfl, rfl, rfl, trivial⟩ ?_ ?_
        ·
          exact ⟨by omega, hv, Mo.refl _ _⟩
        intro i HL4 hI4 K35 hN35 hE35
        obtain ⟨hi4, hv, hm4⟩ := hI4
        have hal := addL_len st.list q.list i rfl rfl hi4
        refine CW.seq (fun K36 hK36 hE36 => ?_)
        refine CW.region ?_
        refine LR.v (Y.lss rfl rfl rfl) (Wd.u rfl) rfl rfl ?_
        refine LR.nil ?_
        refine hK36 _ _ ?_
        refine CW.seq (fun K37 hK37 hE37 => ?_)
        refine CW.condp rfl (fun c162 => ?_) (fun c162 => ?_)
        ·
          refine CW.skip ?_
          refine hK37 _ _ ?_
          refine CW.seq (fun K38 hK38 hE38 => ?_)
          refine CW.block (fun K39 hK39 hX39 hE39 => ?_)
          refine CW.seq (fun K40 hK40 hE40 => ?_)
          refine CW.region ?_
          refine LR.v (Y.move rfl rfl) (Wd.u rfl) rfl rfl ?_
          refine LR.v (Y.arrIndex (i) rfl Tryd.runUnderlying108 Tryd.sizeOf106 Tryd.isAgg106 rfl rfl (by first | rfl | omega) (by omega) (by rw [List.getElem?_toArray]; exact map_get q.list i (by simp; omega))) (Wd.u rfl) rfl rfl ?_
          refine LR.v (Y.assign rfl rfl) (Wd.u rfl) rfl rfl ?_
          refine LR.v (Y.assign rfl rfl) (Wd.u rfl) rfl rfl ?_
          refine LR.nil ?_
          refine hK40 _ _ ?_
          refine CW.region_tail 11 rfl (by kernel_rfl) (fun T22 hT22 => ?_)
          refine LR.v (Y.move rfl rfl) (Wd.u rfl) rfl rfl ?_
          refine LR.v (Y.move rfl rfl) (Wd.u rfl) rfl rfl ?_
          refine LR.v (Y.nilCheck rfl rfl) (Wd.u rfl) rfl rfl ?_
          refine LR.v (Y.fieldAddr hv.pt rfl Tryd.runUnderlying127 rfl rfl Tryd.sizeOf108 (by decide) rfl) (Wd.u rfl) rfl rfl ?_
          refine LR.v (Y.arrAddr hv.pt (i) rfl Tryd.runUnderlying108 Tryd.sizeOf106 rfl rfl (by first | rfl | omega) (by first | omega | (simp; omega) | (simp; done))) (Wd.u rfl) rfl rfl ?_
          
          refine LR.v (Y.load1 (hv.pt.at (i) (hc_state i (by omega))) rfl Tryd.isAgg106 rfl) (Wd.u rfl) rfl rfl ?_
          rw [addL_get st.list q.list i rfl rfl (by omega)]
          refine LR.v (Y.move rfl rfl) (Wd.u rfl) rfl rfl ?_
          refine LR.v (Y.add_u32 rfl rfl rfl) (Wd.u rfl) rfl rfl ?_
          refine LR.v (Y.nilCheck rfl rfl) (Wd.u rfl) rfl rfl ?_
          refine LR.v (Y.fieldAddr hv.pt rfl Tryd.runUnderlying127 rfl rfl Tryd.sizeOf108 (by decide) rfl) (Wd.u rfl) rfl rfl ?_
          refine LR.v (Y.arrAddr hv.pt (i) rfl Tryd.runUnderlying108 Tryd.sizeOf106 rfl rfl (by first | rfl | omega) (by first | omega | (simp; omega) | (simp; done))) (Wd.u rfl) rfl rfl ?_
          refine LR.nil (hT22 _ ?_)
          refine LR.s (S.var1 hv (0 + (i)) (_) rfl rfl rfl (rfl) Tryd.sizeOf106 (by rw [hc_len hal hw]; omega) (hc_set_state i (by omega) _)) (Wd.u rfl) rfl (fun H22_11 r22_11 => ?_)
          obtain ⟨hv, hst22⟩ := r22_11
          refine LR.nil ?_
          refine hK39 _ _ ?_
          refine hK38 _ _ ?_
          refine CW.region ?_
          refine LR.v (Y.addi rfl rfl rfl (by omega)) (Wd.u rfl) rfl rfl ?_
          refine LR.v (Y.move rfl rfl) (Wd.u rfl) rfl rfl ?_
          refine LR.nil ?_
          refine QN.sub (hN35 (i + 1) _ ?_ ?_) ⟨rfl, rfl, (iv (by omega)), trivial⟩
          · exact ⟨by omega, by rw [← addL_succ st.list q.list i rfl rfl (by omega)]; exact hv, hm4.trans hst22 (fun _ _ e => e) (fun _ _ e => e)⟩
          · omega
        ·
          have hi8 : i = 8 := by omega
          subst hi8
          refine CW.exit (hE37 (.exit 6) nofun _ _ (hE35 (.exit 6) nofun _ _ (hX34 _ _ ?_)))
          refine hK32 _ _ ?_
          refine CW.region ?_
          refine LR.v (Y.move rfl rfl) (Wd.u rfl) rfl rfl ?_
          refine LR.v (Y.nilCheck rfl rfl) (Wd.u rfl) rfl rfl ?_
          refine LR.v (Y.fieldAddr hv.pt rfl Tryd.runUnderlying127 rfl rfl Tryd.sizeOf3 (by decide) rfl) (Wd.u rfl) rfl rfl ?_
          refine LR.s (S.var1 hv 72 (_) rfl rfl rfl (rfl) Tryd.sizeOf3 (by rw [hc_len hal hw]; omega) (hc_set_n (m := 0) hal hw)) (Wd.u rfl) rfl (fun H24_3 r24_3 => ?_)
          obtain ⟨hv, hst24⟩ := r24_3
          refine LR.nil ?_
          refine hret .normal (.inl rfl) _ _ _ (res0 rfl) ?_
          refine ⟨rfl, by rw [← hcm]; exact hv, ⟨by have := hs2.size; have := hm.size; have := hm2.size; have := hs7.size; have := hs11.size; have := hs72.size; have := hm3.size; have := hm4.size; have := hst24.size; omega, fun b hb2 hne => ?_⟩⟩
          have q1 := hs2.size; have q2 := hm.size; have q3 := hm2.size; have q4 := hs7.size; have q5 := hs11.size; have q6 := hs72.size; have q7 := hm3.size; have q8 := hm4.size
          rw [hst24.same b (by omega) hne, hm4.same b (by omega) hne, hm3.same b (by omega) (by omega), hs72.same b (by omega) (fun e => e), hs11.same b (by omega) (by omega), hs7.same b (by omega) (fun e => e), hm2.same b (by omega) (by omega), hm.same b (by omega) (by omega), hs2.same b (by omega) (fun e => e)]

end Go.Proofs.YtdliddjkacbggaaDoor.SumC
/-
  How the arguments of a statement read, as facts of the engine, and their sizes: no condition.
-/
namespace Go.Proofs.YtdliddjkacbggaaDoor.E
set_option linter.unusedVariables false
set_option linter.unusedSimpArgs false
set_option linter.unusedSectionVars false
open Go.ChangeShapes Go.WideShapes Go.ChangeAt Go.RowKit Go.Deep

theorem bulkAll_append {H : Type} (l r : List (DataW H)) : Rows.uptoBulkAll (l ++ r) = Rows.uptoBulkAll l + Rows.uptoBulkAll r := by
  induction l with
  | nil => simp [Rows.uptoBulkAll]
  | cons x l ih => simp only [List.cons_append, Rows.uptoBulkAll, ih]; omega

theorem list_of {α : Type} {n : Nat} {p : Nat → α → Prop} (h : ∀ i, i < n → ∃ x, p i x) : ∃ l : List α, l.length = n ∧ ∀ i x, l[i]? = some x → p i x := by
  induction n with
  | zero => exact ⟨[], rfl, fun i x h => by simp at h⟩
  | succ n ih =>
    obtain ⟨l, hl, hp⟩ := ih (fun i hi => h i (by omega))
    obtain ⟨x, hx⟩ := h n (by omega)
    refine ⟨l ++ [x], by simp [hl], fun i y hy => ?_⟩
    by_cases hi : i < l.length
    · rw [List.getElem?_append_left hi] at hy; exact hp i y hy
    · rw [List.getElem?_append_right (by omega)] at hy
      have : i - l.length = 0 := by have := (List.getElem?_eq_some_iff.1 hy).1; simp at this; omega
      rw [this] at hy
      simp only [List.getElem?_cons_zero, Option.some.injEq] at hy
      subst hy
      have : i = n := by omega
      subst this; exact hx

theorem sum_le {α : Type} {H : Type} (B : α → Nat) (D : Nat → DataW H) (l : List α) (h : ∀ i x, l[i]? = some x → B x ≤ Rows.uptoBulk (D i)) : ∀ k, k ≤ l.length → ((l.take k).map B).sum ≤ Rows.uptoBulkAll ((List.range k).map D) := by
  intro k
  induction k with
  | zero => intro _; simp
  | succ k ih =>
    intro hk
    rw [List.range_succ, List.map_append, bulkAll_append, List.take_succ_eq_append_getElem (show k < l.length from hk), List.map_append, List.sum_append]
    have h1 := ih (by omega)
    have h2 := h k l[k] (by simp [show k < l.length from hk])
    simp only [List.map_cons, List.map_nil, List.sum_cons, List.sum_nil, Rows.uptoBulkAll]
    omega

section
variable {H : Type} {enc : TypeId × Value → H} {P : Program} {W : World} {base : Nat} {sp : Nat → Bool} {held : Bool}
theorem read_slice {α : Type} (f : α → List Value) (sz : Nat) (B : α → Nat) (Φ : α → Prop) {t e : TypeId} {v : Value} {d : DataW H} {p : List MemPlace} (hv : v.cells = #[v]) (ht : P.underlying t = some (.slice e)) (hc : P.cellsOf e = sz) (hf : ∀ x, (f x).length = sz) (hsz : 0 < sz)
    (elem : ∀ n cs' y ps, DataW.trod enc P W base sp held n e cs' = some (y, ps) → cs'.length = sz → ∃ x, cs' = f x ∧ Φ x ∧ B x ≤ Rows.uptoBulk y) (h : DataW.Trod enc P W base sp held t v d p) :
    ∃ l : List α, RdT W.heap f sz v l ∧ (∀ x ∈ l, Φ x) ∧ (l.map B).sum + 1 ≤ Rows.uptoBulk d := by
  obtain ⟨fuel, h⟩ := h
  rw [hv] at h
  rcases open_slice ht h with ⟨h1, h2⟩ | ⟨a, len, cap, m, n, D, Pl, h1, h2, h3, h4, h5, h6, h7⟩
  · simp only [Array.toList, List.cons.injEq, and_true] at h1
    simp only [Prod.mk.injEq] at h2
    obtain ⟨rfl, rfl⟩ := h2
    subst h1
    exact ⟨[], Rd.nil _ _ _ _, by simp, by simp [Rows.uptoBulk]⟩
  · simp only [List.cons.injEq, and_true] at h1
    simp only [Prod.mk.injEq] at h6
    obtain ⟨rfl, rfl⟩ := h6
    subst h1
    have hm : len ≤ m := by rw [h5]; split <;> omega
    have : ∀ i, i < len → ∃ x : α, ∃ cs', W.cells? base (a.add (i * sz)) sz = some cs' ∧ cs' = f x ∧ Φ x ∧ B x ≤ Rows.uptoBulk (D i) := by
      intro i hi
      obtain ⟨cs', hcs, htr⟩ := h7 i (by omega)
      rw [hc] at hcs
      obtain ⟨_, hl, _⟩ := World.cells?_some hcs
      obtain ⟨x, hx⟩ := elem n cs' _ _ htr hl
      exact ⟨x, cs', hcs, hx⟩
    obtain ⟨l, hl, hp⟩ := list_of this
    refine ⟨l, ⟨some a, cap, by rw [hl], by omega, h4, fun hne => ?_⟩, fun x hx => ?_, ?_⟩
    · have hlen : 0 < l.length := List.length_pos_iff.2 hne
      obtain ⟨cs0, hcs0, hcs0', _⟩ := hp 0 l[0] (by simp [hlen])
      obtain ⟨_, hl0, hcell0⟩ := World.cells?_some hcs0
      have hc0 := hcell0 0 (by omega)
      have hh : W.cell? a = some (cs0[0]'(by omega)) := by
        simp only [Nat.zero_mul] at hc0
        rw [← List.getElem?_eq_getElem, ← hc0]
        simp [Addr.add]
      have hspot : a.spot = none := World.cell?_spot hh
      refine ⟨a, rfl, hspot, trivial, World.block_lt_of_cell? W a hh, fun i x hx => ⟨rfl, fun j c hj => ?_⟩⟩
      obtain ⟨cs', hcs', rfl, _, _⟩ := hp i x hx
      obtain ⟨_, hl', hcell'⟩ := World.cells?_some hcs'
      have hjl := (List.getElem?_eq_some_iff.1 hj).1
      have := hcell' j (by rw [← hl']; exact hjl)
      rw [hj] at this
      rw [add_eq hspot, add_eq rfl] at this
      show cell W.heap _ = _
      rw [← (At.cell (w0 := W) ⟨rfl, rfl, rfl, rfl, Nat.le_refl _⟩ _)]
      exact this
    · obtain ⟨i, hi⟩ := List.mem_iff_getElem?.1 hx
      obtain ⟨_, _, _, h8, _⟩ := hp i x hi
      exact h8
    · have := sum_le B D l (fun i x hx => by obtain ⟨_, _, _, _, h9⟩ := hp i x hx; exact h9) l.length (Nat.le_refl _)
      rw [List.take_length, hl] at this
      simp only [Rows.uptoBulk]
      omega

theorem sum_len {α : Type} (B : α → Nat) (hB : ∀ x, 1 ≤ B x) : ∀ (l : List α), l.length ≤ (l.map B).sum
  | [] => by simp
  | y :: l => by simp only [List.map_cons, List.sum_cons, List.length_cons]; have := hB y; have := sum_len B hB l; omega

/-- a slice of texts -/
theorem read_strs {t e : TypeId} {v : Value} {d : DataW H} {p : List MemPlace} (hv : v.cells = #[v]) (ht : P.underlying t = some (.slice e)) (he : P.underlying e = some .string) (hc : P.cellsOf e = 1) (h : DataW.Trod enc P W base sp held t v d p) :
    ∃ l : List (List UInt8), RdT W.heap fS 1 v l ∧ (l.map (fun s => s.length + 1)).sum + 1 ≤ Rows.uptoBulk d := by
  obtain ⟨l, h1, _, h2⟩ := read_slice fS 1 (fun s => s.length + 1) (fun _ => True) hv ht hc fS_len (by omega) (fun n cs' y ps hy hl => by
    obtain ⟨s, rfl, h3⟩ := DataW.trod_string he hy
    simp only [Prod.mk.injEq] at h3
    refine ⟨s.data.toList, rfl, trivial, ?_⟩
    rw [h3.1.1]
    simp [Rows.uptoBulk]) h
  exact ⟨l, h1, h2⟩
/-- a slice of numbers -/
theorem read_ints {k : IntKind} {t e : TypeId} {v : Value} {d : DataW H} {p : List MemPlace} (hv : v.cells = #[v]) (ht : P.underlying t = some (.slice e)) (he : P.underlying e = some (.int k)) (hc : P.cellsOf e = 1) (h : DataW.Trod enc P W base sp held t v d p) :
    ∃ l : List Int, RdT W.heap (fun x => [Value.int k x]) 1 v l ∧ (∀ x ∈ l, (Lit.int k x).wf = true) ∧ l.length + 1 ≤ Rows.uptoBulk d := by
  obtain ⟨l, h1, h0, h2⟩ := read_slice (fun x => [Value.int k x]) 1 (fun _ => 1) (fun x => (Lit.int k x).wf = true) hv ht hc (fun _ => rfl) (by omega) (fun n cs' y ps hy hl => by
    obtain ⟨x, rfl, h3, h4⟩ := DataW.trod_int he hy
    simp only [Prod.mk.injEq] at h3
    refine ⟨x, rfl, h4, ?_⟩
    rw [h3.1]
    simp [Rows.uptoBulk]) h
  exact ⟨l, h1, h0, by have := sum_len (fun _ : Int => 1) (fun _ => by omega) l; omega⟩
theorem u8_of {x : Int} (h : (Lit.int .u8 x).wf = true) : ∃ b : UInt8, x = b.toNat := by
  simp only [Lit.wf, Bool.and_eq_true, decide_eq_true_eq, show IntKind.u8.min = 0 by decide, show IntKind.u8.max = 255 by decide] at h
  refine ⟨UInt8.ofNat x.toNat, ?_⟩
  rw [UInt8.toNat_ofNat']
  omega
theorem i64_of {x : Int} (h : (Lit.int .i64 x).wf = true) : -9223372036854775808 ≤ x ∧ x ≤ 9223372036854775807 := by
  simpa only [Lit.wf, Bool.and_eq_true, decide_eq_true_eq, show IntKind.i64.min = -9223372036854775808 by decide, show IntKind.i64.max = 9223372036854775807 by decide] using h
/-- a slice of bytes -/
theorem read_bytes {t e : TypeId} {v : Value} {d : DataW H} {p : List MemPlace} (hv : v.cells = #[v]) (ht : P.underlying t = some (.slice e)) (he : P.underlying e = some (.int .u8)) (hc : P.cellsOf e = 1) (h : DataW.Trod enc P W base sp held t v d p) :
    ∃ l : List UInt8, RdT W.heap fB 1 v l ∧ l.length + 1 ≤ Rows.uptoBulk d := by
  obtain ⟨l, h1, _, h2⟩ := read_slice fB 1 (fun _ => 1) (fun _ => True) hv ht hc fB_len (by omega) (fun n cs' y ps hy hl => by
    obtain ⟨x, rfl, h3, h4⟩ := DataW.trod_int he hy
    obtain ⟨b, rfl⟩ := u8_of h4
    simp only [Prod.mk.injEq] at h3
    refine ⟨b, rfl, trivial, ?_⟩
    rw [h3.1]
    simp [Rows.uptoBulk]) h
  exact ⟨l, h1, by have := sum_len (fun _ : UInt8 => 1) (fun _ => by omega) l; omega⟩
/-- elements that are slices themselves -/
abbrev fP {β : Type} (x : SV × β) : List Value := [x.1.v]
theorem fP_len {β : Type} (x : SV × β) : (fP x).length = 1 := rfl
theorem fP_one {β : Type} (x : SV × β) : ∀ u ∈ fP x, u.oneCell' = true := by intro u hu; simp only [List.mem_singleton] at hu; subst hu; rfl
theorem read_nested {β : Type} (Ψ : Value → β → Prop) (B : β → Nat) {t e ee : TypeId} {v : Value} {d : DataW H} {p : List MemPlace} (hv : v.cells = #[v]) (ht : P.underlying t = some (.slice e)) (he : P.underlying e = some (.slice ee)) (hc : P.cellsOf e = 1)
    (rd : ∀ (v : Value) (d : DataW H) (p : List MemPlace), v.cells = #[v] → DataW.Trod enc P W base sp held e v d p → ∃ l : β, Ψ v l ∧ B l ≤ Rows.uptoBulk d) (h : DataW.Trod enc P W base sp held t v d p) :
    ∃ l : List (SV × β), RdT W.heap fP 1 v l ∧ (∀ x ∈ l, Ψ x.1.v x.2) ∧ (l.map (fun x => B x.2)).sum + 1 ≤ Rows.uptoBulk d := by
  refine read_slice (fP (β := β)) 1 (fun x => B x.2) (fun x => Ψ x.1.v x.2) hv ht hc fP_len (by omega) (fun n cs' y ps hy hl => ?_) h
  match cs', hl with
  | [u], _ =>
    have hu : ∃ s : SV, u = s.v := by
      rcases open_slice he hy with ⟨h1, _⟩ | ⟨a, len, cap, _, _, _, _, h1, _⟩
      · simp only [List.cons.injEq, and_true] at h1; exact ⟨⟨none, 0, 0⟩, h1⟩
      · simp only [List.cons.injEq, and_true] at h1; exact ⟨⟨some a, len, cap⟩, h1⟩
    obtain ⟨s, rfl⟩ := hu
    obtain ⟨l, h1, h2⟩ := rd s.v y ps rfl ⟨n, hy⟩
    exact ⟨(s, l), rfl, h1, h2⟩
/-- rows of bytes -/
theorem read_byteses {t e ee : TypeId} {v : Value} {d : DataW H} {p : List MemPlace} (hv : v.cells = #[v]) (ht : P.underlying t = some (.slice e)) (he : P.underlying e = some (.slice ee)) (hee : P.underlying ee = some (.int .u8)) (hc : P.cellsOf e = 1) (hce : P.cellsOf ee = 1) (h : DataW.Trod enc P W base sp held t v d p) :
    ∃ l : List (SV × List UInt8), RdT W.heap fP 1 v l ∧ (∀ x ∈ l, RdT W.heap fB 1 x.1.v x.2) ∧ (l.map (fun x => x.2.length + 1)).sum + 1 ≤ Rows.uptoBulk d :=
  read_nested (fun v l => RdT W.heap fB 1 v l) (fun l => l.length + 1) hv ht he hc (fun v d p hv h => read_bytes hv he hee hce h) h
end
end Go.Proofs.YtdliddjkacbggaaDoor.E
/-
  The contracts of a sum under way.
-/
namespace Go.Proofs.YtdliddjkacbggaaDoor.SumD
open Go.Proofs.YtdliddjkacbggaaDoor.E Go.RowKit Go.Proofs.YtdliddjkacbggaaDoor.SumA Go.Proofs.YtdliddjkacbggaaDoor.SumB Go.Proofs.YtdliddjkacbggaaDoor.SumC
set_option maxRecDepth 20000
set_option linter.unusedVariables false
set_option linter.unusedSimpArgs false
set_option linter.unusedSectionVars false

def IV : S8 := ⟨0x6a09e667, 0xbb67ae85, 0x3c6ef372, 0xa54ff53a, 0x510e527f, 0x9b05688c, 0x1f83d9ab, 0x5be0cd19⟩
/-- whole blocks are taken in, the rest waits -/
def run (s : S8) (b : List UInt8) : S8 × List UInt8 := if h : b.length < 64 then (s, b) else run (compress s (b.take 64)) (b.drop 64)
termination_by b.length
decreasing_by simp; omega
theorem run_lt (s : S8) (b : List UInt8) (h : b.length < 64) : run s b = (s, b) := by rw [run, dif_pos h]
theorem run_ge (s : S8) (b : List UInt8) (h : 64 ≤ b.length) : run s b = run (compress s (b.take 64)) (b.drop 64) := by rw [run, dif_neg (by omega)]
theorem run_len : ∀ (n : Nat) (s : S8) (b : List UInt8), b.length ≤ n → (run s b).2.length < 64 := by
  intro n
  induction n with
  | zero => intro s b h; rw [run_lt s b (by omega)]; simp; omega
  | succ n ih =>
    intro s b h
    by_cases hb : b.length < 64
    · rw [run_lt s b hb]; exact hb
    · rw [run_ge s b (by omega)]; exact ih _ _ (by simp; omega)
theorem run_app : ∀ (n : Nat) (s : S8) (a b : List UInt8), a.length ≤ n → run s (a ++ b) = run (run s a).1 ((run s a).2 ++ b) := by
  intro n
  induction n with
  | zero => intro s a b h; rw [run_lt s a (by omega)]
  | succ n ih =>
    intro s a b h
    by_cases ha : a.length < 64
    · rw [run_lt s a ha]
    · rw [run_ge s a (by omega), run_ge s (a ++ b) (by simp; omega), List.take_append_of_le_length (by omega), List.drop_append_of_le_length (by omega)]
      exact ih _ _ _ (by simp; omega)
theorem run_more (s : S8) (a b : List UInt8) : run s (a ++ b) = run (run s a).1 ((run s a).2 ++ b) := run_app _ s a b (Nat.le_refl _)
theorem run_rest (s : S8) (b : List UInt8) : (run s b).2.length < 64 := run_len _ s b (Nat.le_refl _)
theorem hc_splice {s : List UInt32} {wt xs : List UInt8} {n m : Nat} {al : UInt64} (hs : s.length = 8) (hw : wt.length = 64) (h : m + xs.length ≤ 64) : splice (hc s wt n al) (8 + m) (xs.flatMap fB) = hc s (wt.take m ++ xs ++ wt.drop (m + xs.length)) n al := by
  have h8 : (s.map V32).length = 8 := by simpa using hs
  have hx : (xs.flatMap fB).length = xs.length := by rw [length_flatMap fB_len, Nat.mul_one]
  have e : ∀ (wt : List UInt8), hc s wt n al = s.map V32 ++ (wt.map V8 ++ [.int .i64 n, .int .u64 al.toNat]) := fun wt => by rw [hc, List.append_assoc]
  rw [splice, hx, e, e, List.take_append, List.take_of_length_le (by omega), h8, show 8 + m - 8 = m by omega, List.drop_append, List.drop_of_length_le (by omega), h8, List.nil_append, show 8 + m + xs.length - 8 = m + xs.length by omega]
  rw [List.take_append_of_le_length (by simp; omega), List.drop_append_of_le_length (by simp; omega), flatMap_fB]
  simp [List.map_append, List.map_take, List.map_drop]
/-- a sum under way: m has come so far -/
structure HS (H : Heap) (hb : Nat) (m : List UInt8) (al : UInt64) : Prop where
  ex : ∃ wt : List UInt8, wt.length = 64 ∧ Var 127 H hb (hc (run IV m).1.list wt (run IV m).2.length al) ∧ wt.take (run IV m).2.length = (run IV m).2
theorem HS.nw {H H' : Heap} {hb : Nat} {m : List UInt8} {al : UInt64} (h : HS H hb m al) (s : Nw H H') : HS H' hb m al := let ⟨wt, h1, h2, h3⟩ := h.ex; ⟨wt, h1, h2.nw s, h3⟩
theorem HS.up {H H' : Heap} {hb : Nat} {m : List UInt8} {al : UInt64} {S : Nat → Prop} (h : HS H hb m al) (s : Mo S H H') (hS : ¬ S hb) : HS H' hb m al := let ⟨wt, h1, h2, h3⟩ := h.ex; ⟨wt, h1, h2.up s hS, h3⟩
theorem HS.lt {H : Heap} {hb : Nat} {m : List UInt8} {al : UInt64} (h : HS H hb m al) : hb < H.size := let ⟨_, _, h2, _⟩ := h.ex; h2.lt
def cat (l : List (SV × List UInt8)) : List UInt8 := l.flatMap (·.2)
theorem cat_take (l : List (SV × List UInt8)) (k : Nat) (h : k < l.length) : cat (l.take (k + 1)) = cat (l.take k) ++ (l[k]).2 := by
  unfold cat; rw [List.take_succ_eq_append_getElem h, List.flatMap_append]; simp

theorem new_ct  (w0 : World) (H0 : Heap)
     :
    Ct Tryd.prog w0 55 #[] H0 (fun r H2 => r = .pointer (some ⟨H0.size, 0, none⟩) ∧ HS H2 H0.size [] 0 ∧ Nw H0 H2 ∧ H2.size = H0.size + 1) := by
  refine Ct.enter (args := []) Tryd.func55 rfl rfl rfl ?_
  intro Q0 hret
  refine CW.seq (fun K1 hK1 hE1 => ?_)
  refine CW.region ?_
  refine LR.v (Y.assign rfl rfl) (Wd.u rfl) rfl rfl ?_
  refine LR.nil ?_
  refine hK1 _ _ ?_
  refine CW.seq (fun K2 hK2 hE2 => ?_)
  refine CW.region ?_
  refine LR.v (Y.build (v := .agg (IV.list.map V32).toArray) rfl rfl (by intro w; kernel_rfl)) (Wd.u rfl) rfl rfl ?_
  refine LR.v (Y.build (v := .agg (hc IV.list (List.replicate 64 0) 0 0).toArray) rfl rfl (by intro w; kernel_rfl)) (Wd.u rfl) rfl rfl ?_
  refine LR.z (Z.boxv rfl rfl) (Wd.u rfl) rfl rfl (fun v3 H3 r3 => ?_)
  obtain ⟨rfl, va3, hs3, ob3, hH3⟩ := r3
  replace va3 : Var 127 H3 H0.size (hc IV.list (List.replicate 64 0) 0 0) := va3
  refine LR.v (Y.assign rfl rfl) (Wd.u rfl) rfl rfl ?_
  refine LR.nil ?_
  refine hK2 _ _ ?_
  refine CW.ret (hret .ret (.inr rfl) _ _ _ (res1 rfl rfl) ?_)
  exact ⟨rfl, ⟨List.replicate 64 0, by simp, by rw [run_lt IV [] (by simp)]; exact va3, by rw [run_lt IV [] (by simp)]; rfl⟩, hs3, by rw [hH3]; simp⟩


theorem run_part {c x wt : List UInt8} {n : Nat} (hn : (run IV c).2.length = n) (hb : wt.take n = (run IV c).2) (hw : wt.length = 64) (h : n + x.length < 64) : run IV (c ++ x) = ((run IV c).1, wt.take n ++ x) := by
  rw [run_more, run_lt _ _ (by simp; omega), hb]
theorem run_full {c x wt : List UInt8} {n : Nat} (hn : (run IV c).2.length = n) (hb : wt.take n = (run IV c).2) (hw : wt.length = 64) (h : n + x.length = 64) : run IV (c ++ x) = (compress (run IV c).1 (wt.take n ++ x ++ wt.drop (n + x.length)), []) := by
  have hl : (wt.take n ++ x).length = 64 := by simp; omega
  rw [run_more, ← hb, run_ge _ _ (by omega), List.take_of_length_le (by omega), List.drop_of_length_le (by omega), run_lt _ _ (by simp), List.drop_of_length_le (show wt.length ≤ n + x.length by omega), List.append_nil]
theorem join_take {wt x : List UInt8} {n : Nat} (hw : wt.length = 64) (h : n + x.length ≤ 64) : (wt.take n ++ x ++ wt.drop (n + x.length)).length = 64 ∧ (wt.take n ++ x ++ wt.drop (n + x.length)).take (n + x.length) = wt.take n ++ x := by
  have hl : (wt.take n ++ x).length = n + x.length := by simp; omega
  exact ⟨by simp; omega, List.take_left' hl⟩

set_option maxHeartbeats 4000000 in
theorem write_ct (hb : Nat) (vl : Value) (m : List UInt8) (al : UInt64) (l : List (SV × List UInt8)) (w0 : World) (H0 : Heap)
    (hS : HS H0 hb m al) (hl : Rd (fun b => b ≠ hb) H0 fP 1 vl l) (hx : ∀ x ∈ l, Rd (fun b => b ≠ hb) H0 fB 1 x.1.v x.2) :
    Ct Tryd.prog w0 56 #[.pointer (some ⟨hb, 0, none⟩), vl] H0 (fun r H2 => r = .tuple #[] ∧ HS H2 hb (m ++ cat l) (al + UInt64.ofNat (cat l).length) ∧ Mo (fun c => c = hb) H0 H2) := by
  refine Ct.enter (args := [.pointer (some ⟨hb, 0, none⟩), vl]) Tryd.func56 rfl rfl rfl ?_
  intro Q0 hret
  have hll := hl.len
  refine CW.seq (fun K1 hK1 hE1 => ?_)
  refine CW.region ?_
  refine LR.v (Y.move rfl rfl) (Wd.u rfl) rfl rfl ?_
  refine LR.v (Y.len hl rfl Tryd.runUnderlying22 rfl) (Wd.u rfl) rfl rfl ?_
  refine LR.v (Y.move rfl rfl) (Wd.u rfl) rfl rfl ?_
  refine LR.nil ?_
  refine hK1 _ _ ?_
  refine CW.block (fun K2 hK2 hX2 hE2 => ?_)
  refine CW.loop (fun (k : (Nat)) => [(0, .pointer (some ⟨hb, 0, none⟩)), (7, vl), (8, .int .i64 l.length), (9, .int .i64 k)])
    (fun (k : (Nat)) (H : Heap) => k ≤ l.length ∧ HS H hb (m ++ cat (l.take k)) (al + UInt64.ofNat (cat (l.take k)).length) ∧ Mo (fun c => c = hb) H0 H)
    (fun (k : (Nat)) => l.length - k) 0 ⟨rfl, rfl, rfl, rfl, trivial⟩ ?_ ?_
  ·
    exact ⟨by omega, by simpa [cat] using hS, Mo.refl _ _⟩
  intro k HL1 hI1 K3 hN3 hE3
  obtain ⟨hk, hS, hm⟩ := hI1
  obtain ⟨wt, hwt, hv, hbuf⟩ := hS.ex
  have hl2 := hl.up hm (fun _ _ h1 h2 => h1 h2)
  refine CW.seq (fun K4 hK4 hE4 => ?_)
  refine CW.region ?_
  refine LR.v (Y.lss rfl rfl rfl) (Wd.u rfl) rfl rfl ?_
  refine LR.nil ?_
  refine hK4 _ _ ?_
  refine CW.seq (fun K5 hK5 hE5 => ?_)
  refine CW.condp rfl (fun c10 => ?_) (fun c10 => ?_)
  ·
    refine CW.skip ?_
    refine hK5 _ _ ?_
    refine CW.seq (fun K6 hK6 hE6 => ?_)
    refine CW.block (fun K7 hK7 hX7 hE7 => ?_)
    refine CW.seq (fun K8 hK8 hE8 => ?_)
    refine CW.region ?_
    refine LR.e (g := fun ad => .pointer (some ad)) (Y.indexAddr hl2 (k) rfl Tryd.runUnderlying22 Tryd.sizeOf23 rfl rfl (by first | rfl | omega) (by first | omega | (simp; omega) | (simp; done))) (Wd.u rfl) rfl rfl (fun ad11 pt11 => ?_)
    refine LR.v (Y.load1 pt11 rfl Tryd.isAgg23 rfl) (Wd.u rfl) rfl rfl ?_
    have hr0 := (hx l[k] (List.getElem_mem _)).up hm (fun _ _ h1 h2 => h1 h2)
    have hrl := hr0.len
    refine LR.v (Y.assign rfl rfl) (Wd.u rfl) rfl rfl ?_
    refine LR.nil ?_
    refine hK8 _ _ ?_
    refine CW.seq (fun K9 hK9 hE9 => ?_)
    refine CW.region ?_
    refine LR.v (Y.move rfl rfl) (Wd.u rfl) rfl rfl ?_
    refine LR.v (Y.nilCheck rfl rfl) (Wd.u rfl) rfl rfl ?_
    refine LR.v (Y.fieldAddr hv.pt rfl Tryd.runUnderlying127 rfl rfl Tryd.sizeOf83 (by decide) rfl) (Wd.u rfl) rfl rfl ?_
    refine LR.v (Y.load1 (hv.pt.at 73 (hc_all rfl hwt)) rfl Tryd.isAgg83 rfl) (Wd.u rfl) rfl rfl ?_
    refine LR.v (Y.move rfl rfl) (Wd.u rfl) rfl rfl ?_
    refine LR.v (Y.len hr0 rfl Tryd.runUnderlying23 rfl) (Wd.u rfl) rfl rfl ?_
    refine LR.v (Y.conv_u64 rfl Tryd.runUnderlying3 Tryd.runUnderlying83 rfl) (Wd.u rfl) rfl rfl ?_
    refine LR.v (Y.add_u64 rfl rfl rfl) (Wd.u rfl) rfl rfl ?_
    refine LR.v (Y.nilCheck rfl rfl) (Wd.u rfl) rfl rfl ?_
    refine LR.v (Y.fieldAddr hv.pt rfl Tryd.runUnderlying127 rfl rfl Tryd.sizeOf83 (by decide) rfl) (Wd.u rfl) rfl rfl ?_
    refine LR.s (S.var1 hv 73 (_) rfl rfl rfl (rfl) Tryd.sizeOf83 (by rw [hc_len rfl hwt]; omega) (hc_set_all rfl hwt)) (Wd.u rfl) rfl (fun H3_10 r3_10 => ?_)
    obtain ⟨hv, hst3⟩ := r3_10
    replace hm := hm.trans hst3 (fun _ _ e => e) (fun _ _ e => e)
    replace hr0 := hr0.up hst3 (fun _ _ h1 h2 => h1 h2)
    refine LR.nil ?_
    refine hK9 _ _ ?_
    refine CW.block (fun K10 hK10 hX10 hE10 => ?_)
    refine CW.loop (fun (s_ : (Value) × (List UInt8) × (List UInt8) × (List UInt8)) => match s_ with | (v, r, c, wt) => [(0, .pointer (some ⟨hb, 0, none⟩)), (5, v), (7, vl), (8, .int .i64 l.length), (9, .int .i64 k)])
      (fun (s_ : (Value) × (List UInt8) × (List UInt8) × (List UInt8)) (H : Heap) => match s_ with | (v, r, c, wt) => wt.length = 64 ∧ Var 127 H hb (hc (run IV c).1.list wt (run IV c).2.length (al + UInt64.ofNat (cat (l.take k)).length + UInt64.ofNat (l[k]).2.length)) ∧ wt.take (run IV c).2.length = (run IV c).2 ∧ Rd (fun b => b ≠ hb) H fB 1 v r ∧ c ++ r = m ++ cat (l.take k) ++ (l[k]).2 ∧ Mo (fun c => c = hb) H0 H)
      (fun (s_ : (Value) × (List UInt8) × (List UInt8) × (List UInt8)) => match s_ with | (v, r, c, wt) => r.length) ((l[k]).1.v, (l[k]).2, m ++ cat (l.take k), wt) ⟨rfl, rfl, rfl, rfl, rfl, trivial⟩ ?_ ?_
    ·
      exact ⟨hwt, hv, hbuf, hr0, rfl, hm⟩
    rintro ⟨v, r, c, wt⟩ HL2 hI2 K11 hN11 hE11
    obtain ⟨hwt, hv, hbuf, hr, hc0, hm⟩ := hI2
    have hrl := hr.len
    refine CW.seq (fun K12 hK12 hE12 => ?_)
    refine CW.seq (fun K13 hK13 hE13 => ?_)
    refine CW.region ?_
    refine LR.v (Y.move rfl rfl) (Wd.u rfl) rfl rfl ?_
    refine LR.v (Y.len hr rfl Tryd.runUnderlying23 rfl) (Wd.u rfl) rfl rfl ?_
    refine LR.v (Y.gtr rfl rfl rfl) (Wd.u rfl) rfl rfl ?_
    refine LR.nil ?_
    refine hK13 _ _ ?_
    refine CW.condp rfl (fun c25 => ?_) (fun c25 => ?_)
    ·
      refine CW.skip ?_
      refine hK12 _ _ ?_
      refine CW.block (fun K14 hK14 hX14 hE14 => ?_)
      refine CW.seq (fun K15 hK15 hE15 => ?_)
      have hn64 := run_rest IV c
      obtain ⟨n, hn⟩ : ∃ n, (run IV c).2.length = n := ⟨_, rfl⟩
      rw [hn] at hv hbuf hn64
      obtain ⟨kk, hkk⟩ : ∃ kk, min r.length (64 - n) = kk := ⟨_, rfl⟩
      have hkl : (r.take kk).length = kk := by simp; omega
      obtain ⟨hj1, hj2⟩ := join_take (x := r.take kk) (n := n) hwt (by omega)
      refine CW.region_tail 9 rfl (by kernel_rfl) (fun T5 hT5 => ?_)
      refine LR.v (Y.move rfl rfl) (Wd.u rfl) rfl rfl ?_
      refine LR.v (Y.nilCheck rfl rfl) (Wd.u rfl) rfl rfl ?_
      refine LR.v (Y.fieldAddr hv.pt rfl Tryd.runUnderlying127 rfl rfl Tryd.sizeOf125 (by decide) rfl) (Wd.u rfl) rfl rfl ?_
      refine LR.v (Y.move rfl rfl) (Wd.u rfl) rfl rfl ?_
      refine LR.v (Y.nilCheck rfl rfl) (Wd.u rfl) rfl rfl ?_
      refine LR.v (Y.fieldAddr hv.pt rfl Tryd.runUnderlying127 rfl rfl Tryd.sizeOf3 (by decide) rfl) (Wd.u rfl) rfl rfl ?_
      refine LR.v (Y.load1 (hv.pt.at 72 (hc_n rfl hwt)) rfl Tryd.isAgg3 rfl) (Wd.u rfl) rfl rfl ?_
      refine LR.v ((Y.sliceArr (F := fun c => c = hb) (f := fB) (xs := wt) (hv.pt.drop 8) rfl hv.lt (hwt) (fun i x h => hc_wait rfl i x h) (n) (64) rfl (fun w => .inl (Tryd.runUnderlying125 w)) Tryd.sizeOf5 rfl (.inr ⟨_, _, _, rfl, rfl, by first | rfl | omega⟩) (.inl ⟨rfl, rfl⟩) (by omega) (by omega) (by decide)).1 _) (Wd.u rfl) rfl rfl ?_
      rw [if_neg (by omega)]
      refine LR.v (Y.move rfl rfl) (Wd.u rfl) rfl rfl ?_
      refine LR.nil (hT5 _ ?_)
      refine LR.z (Z.copy (off := 8 + n) hv hr fB_len fB_one rfl Tryd.underlying23 Tryd.sizeOf5 rfl rfl (by rw [hc_len rfl hwt]; omega) (kk) (by omega)) (Wd.u rfl) rfl rfl (fun v35 H35 r35 => ?_)
      obtain ⟨rfl, hv, hs35⟩ := r35
      rw [hc_splice rfl hwt (by omega)] at hv
      replace hr := hr.up hs35 (fun _ _ h1 h2 => h1 h2)
      replace hm := hm.trans hs35 (fun _ _ e => e) (fun _ _ e => e)
      refine LR.v (Y.assign rfl rfl) (Wd.u rfl) rfl rfl ?_
      refine LR.nil ?_
      refine hK15 _ _ ?_
      refine CW.seq (fun K16 hK16 hE16 => ?_)
      refine CW.region ?_
      refine LR.v (Y.move rfl rfl) (Wd.u rfl) rfl rfl ?_
      refine LR.v (Y.nilCheck rfl rfl) (Wd.u rfl) rfl rfl ?_
      refine LR.v (Y.fieldAddr hv.pt rfl Tryd.runUnderlying127 rfl rfl Tryd.sizeOf3 (by decide) rfl) (Wd.u rfl) rfl rfl ?_
      refine LR.v (Y.load1 (hv.pt.at 72 (hc_n rfl hj1)) rfl Tryd.isAgg3 rfl) (Wd.u rfl) rfl rfl ?_
      refine LR.v (Y.move rfl rfl) (Wd.u rfl) rfl rfl ?_
      refine LR.v (Y.addi rfl rfl rfl (by omega)) (Wd.u rfl) rfl rfl ?_
      refine LR.v (Y.nilCheck rfl rfl) (Wd.u rfl) rfl rfl ?_
      refine LR.v (Y.fieldAddr hv.pt rfl Tryd.runUnderlying127 rfl rfl Tryd.sizeOf3 (by decide) rfl) (Wd.u rfl) rfl rfl ?_
      refine LR.s (S.var1 hv 72 (hc (run IV c).1.list (wt.take n ++ r.take kk ++ wt.drop (n + (r.take kk).length)) (n + kk) (al + UInt64.ofNat (cat (l.take k)).length + UInt64.ofNat (l[k]).2.length)) rfl rfl rfl (rfl) Tryd.sizeOf3 (by rw [hc_len rfl hj1]; omega) (by rw [← hc_set_n (m := n + kk) (n := n) rfl hj1, Int.natCast_add])) (Wd.u rfl) rfl (fun H6_8 r6_8 => ?_)
      obtain ⟨hv, hs6⟩ := r6_8
      replace hr := hr.up hs6 (fun _ _ h1 h2 => h1 h2)
      replace hm := hm.trans hs6 (fun _ _ e => e) (fun _ _ e => e)
      refine LR.nil ?_
      refine hK16 _ _ ?_
      refine CW.seq (fun K17 hK17 hE17 => ?_)
      refine CW.region ?_
      refine LR.v (Y.move rfl rfl) (Wd.u rfl) rfl rfl ?_
      refine LR.v (Y.move rfl rfl) (Wd.u rfl) rfl rfl ?_
      refine LR.e (g := fun v => v) (Y.slice hr (kk) (_) rfl Tryd.runUnderlying23 Tryd.sizeOf5 rfl (.inr ⟨_, _, _, rfl, rfl, by first | rfl | omega⟩) (.inl ⟨rfl, rfl⟩) (by omega) (by omega)) (Wd.u rfl) rfl rfl (fun v46 rd46 => ?_)
      rw [List.take_length] at rd46
      refine LR.v (Y.assign rfl rfl) (Wd.u rfl) rfl rfl ?_
      refine LR.nil ?_
      refine hK17 _ _ ?_
      refine CW.seq (fun K18 hK18 hE18 => ?_)
      refine CW.region ?_
      refine LR.v (Y.move rfl rfl) (Wd.u rfl) rfl rfl ?_
      refine LR.v (Y.nilCheck rfl rfl) (Wd.u rfl) rfl rfl ?_
      refine LR.v (Y.fieldAddr hv.pt rfl Tryd.runUnderlying127 rfl rfl Tryd.sizeOf3 (by decide) rfl) (Wd.u rfl) rfl rfl ?_
      refine LR.v (Y.load1 (hv.pt.at 72 (hc_n rfl hj1)) rfl Tryd.isAgg3 rfl) (Wd.u rfl) rfl rfl ?_
      refine LR.v (Y.eql rfl rfl rfl) (Wd.u rfl) rfl rfl ?_
      refine LR.nil ?_
      refine hK18 _ _ ?_
      refine CW.condp rfl (fun c51 => ?_) (fun c51 => ?_)
      ·
        refine CW.region ?_
        refine LR.v (Y.move rfl rfl) (Wd.u rfl) rfl rfl ?_
        -- call (*selvage/sum.Hash).block
        refine LR.call rfl Tryd.call76 rfl (Wd.u rfl) rfl rfl (block_ct hb _ _ _ _ w0 _ hv hj1) (fun v53 H53 r53 => ?_)
        obtain ⟨rfl, hv, hs53⟩ := r53
        replace rd46 := rd46.up hs53 (fun _ _ h1 h2 => h1 h2)
        replace hm := hm.trans hs53 (fun _ _ e => e) (fun _ _ e => e)
        refine LR.nil ?_
        refine hK14 _ _ ?_
        have hrn := run_full (x := r.take kk) (c := c) (wt := wt) hn hbuf hwt (by omega)
        refine QN.sub (hN11 (v46, r.drop kk, c ++ r.take kk, wt.take n ++ r.take kk ++ wt.drop (n + (r.take kk).length)) _ ?_ ?_) ⟨rfl, rfl, rfl, (iv (by omega)), (iv (by omega)), trivial⟩
        · exact ⟨hj1, by rw [hrn]; exact hv, by rw [hrn]; rfl, rd46, by rw [List.append_assoc, List.take_append_drop]; exact hc0, hm⟩
        · show (r.drop kk).length < r.length; rw [List.length_drop]; omega
      ·
        refine CW.skip ?_
        refine hK14 _ _ ?_
        have hrn := run_part (x := r.take kk) (c := c) (wt := wt) hn hbuf hwt (by omega)
        have hl2 : (wt.take n ++ r.take kk).length = n + kk := by rw [List.length_append, List.length_take]; omega
        refine QN.sub (hN11 (v46, r.drop kk, c ++ r.take kk, wt.take n ++ r.take kk ++ wt.drop (n + (r.take kk).length)) _ ?_ ?_) ⟨rfl, rfl, rfl, (iv (by omega)), (iv (by omega)), trivial⟩
        · exact ⟨hj1, by rw [hrn]; simp only; rw [hl2]; exact hv, by rw [hrn]; simp only; rw [hl2]; simpa only [hkl] using hj2, rd46, by rw [List.append_assoc, List.take_append_drop]; exact hc0, hm⟩
        · show (r.drop kk).length < r.length; rw [List.length_drop]; omega
    ·
      have hr0 : r = [] := List.eq_nil_of_length_eq_zero (by omega)
      subst hr0
      rw [List.append_nil] at hc0
      subst hc0
      refine CW.exit (hE12 (.exit 2) nofun _ _ (hE11 (.exit 2) nofun _ _ (hX10 _ _ ?_)))
      refine hK7 _ _ ?_
      refine hK6 _ _ ?_
      refine CW.region ?_
      refine LR.v (Y.addi rfl rfl rfl (by omega)) (Wd.u rfl) rfl rfl ?_
      refine LR.v (Y.move rfl rfl) (Wd.u rfl) rfl rfl ?_
      refine LR.nil ?_
      refine QN.sub (hN3 (k + 1) _ ?_ ?_) ⟨rfl, rfl, (iv (by omega)), (iv (by omega)), trivial⟩
      · exact ⟨by omega, ⟨wt, hwt, by rw [cat_take l k (by omega), ← List.append_assoc, List.length_append, UInt64.ofNat_add, ← UInt64.add_assoc]; exact hv, by rw [cat_take l k (by omega), ← List.append_assoc]; exact hbuf⟩, hm⟩
      · omega
  ·
    refine CW.exit (hE5 (.exit 0) nofun _ _ (hE3 (.exit 0) nofun _ _ (hX2 _ _ ?_)))
    refine hret .normal (.inl rfl) _ _ _ (res0 rfl) ?_
    have hkl : k = l.length := by omega
    subst hkl
    rw [List.take_length] at hS
    exact ⟨rfl, hS, hm⟩

end Go.Proofs.YtdliddjkacbggaaDoor.SumD
/-
  The contracts of the document's sum.
-/
namespace Go.Proofs.YtdliddjkacbggaaDoor.SumE
open Go.Proofs.YtdliddjkacbggaaDoor.E Go.RowKit Go.Proofs.YtdliddjkacbggaaDoor.SumA Go.Proofs.YtdliddjkacbggaaDoor.SumB Go.Proofs.YtdliddjkacbggaaDoor.SumC Go.Proofs.YtdliddjkacbggaaDoor.SumD
set_option maxRecDepth 20000
set_option linter.unusedVariables false
set_option linter.unusedSimpArgs false
set_option linter.unusedSectionVars false
set_option maxRecDepth 100000 in
theorem inf23 : Inf Tryd.prog 23 5 1 1 := ⟨Tryd.underlying23, _, _, rfl, rfl, rfl, rfl, rfl⟩

theorem rturn_nw (x : UInt32) (j : Nat) (w0 : World) (H0 : Heap) (h0 : 0 < j) (h1 : j < 32) : Ct Tryd.prog w0 58 #[.int .u32 x.toNat, .int .i64 j] H0 (fun r H2 => r = .int .u32 (rotr x j).toNat ∧ Nw H0 H2) :=
  (rturn_ct x j w0 H0 h0 h1).mono fun r H' ⟨h1, h2⟩ => ⟨h1, by rw [h2]; exact Nw.refl _⟩
/-- a number's n bytes, the highest first -/
def numL : Nat → UInt64 → List UInt8
  | 0, _ => []
  | j + 1, x => UInt8.ofNat (shrw_u64 x (8 * j)).toNat :: numL j x
theorem numL_len : ∀ (n : Nat) (x : UInt64), (numL n x).length = n
  | 0, _ => rfl
  | n + 1, x => by rw [numL, List.length_cons, numL_len]

theorem num_ct (k : Nat) (v : Value) (xs : List UInt8) (n : Nat) (x : UInt64) (w0 : World) (H0 : Heap)
    (how : Ow k 5 H0 fB 1 v xs) (hn : n ≤ 8) (hx : xs.length ≤ 1099511627776) :
    Ct Tryd.prog w0 40 #[v, .int .i64 n, .int .u64 x.toNat] H0 (fun r H2 => ∃ v2 : Value, ∃ k2 : Nat, r = v2 ∧ (Ow k2 5 H2 fB 1 v2 (xs ++ numL n x)) ∧ (k2 = 0 ∨ k2 = k ∨ H0.size < k2) ∧ Mo (fun c => c + 1 = k) H0 H2) := by
  refine Ct.enter (args := [v, .int .i64 n, .int .u64 x.toNat]) Tryd.func40 rfl rfl rfl ?_
  intro Q0 hret
  have hle_how := how.le
  have hm0 : Mo (fun c => c + 1 = k) H0 H0 := Mo.refl _ _
  refine CW.seq (fun K1 hK1 hE1 => ?_)
  refine CW.region ?_
  refine LR.v (Y.assign rfl rfl) (Wd.u rfl) rfl rfl ?_
  refine LR.nil ?_
  refine hK1 _ _ ?_
  refine CW.seq (fun K2 hK2 hE2 => ?_)
  refine CW.seq (fun K3 hK3 hE3 => ?_)
  refine CW.region ?_
  refine LR.v (Y.move rfl rfl) (Wd.u rfl) rfl rfl ?_
  refine LR.v (Y.subi rfl rfl rfl (by omega)) (Wd.u rfl) rfl rfl ?_
  refine LR.v (Y.assign rfl rfl) (Wd.u rfl) rfl rfl ?_
  refine LR.nil ?_
  refine hK3 _ _ ?_
  refine CW.block (fun K4 hK4 hX4 hE4 => ?_)
  refine CW.loop (fun (s_ : (Nat) × (Value) × (Nat) × (List UInt8)) => match s_ with | (j, v', k', ys) => [(0, v'), (2, .int .u64 x.toNat), (7, .int .i64 ((j : Int) - 1))])
    (fun (s_ : (Nat) × (Value) × (Nat) × (List UInt8)) (H : Heap) => match s_ with | (j, v', k', ys) => (j ≤ n) ∧ (Ow k' 5 H fB 1 v' ys) ∧ (k' = 0 ∨ k' = k ∨ H0.size < k') ∧ (ys ++ numL j x = xs ++ numL n x) ∧ Mo (fun c => c + 1 = k) H0 H)
    (fun (s_ : (Nat) × (Value) × (Nat) × (List UInt8)) => match s_ with | (j, v', k', ys) => j) (n, v, k, xs) ⟨rfl, rfl, rfl, trivial⟩ ?_ ?_
  ·
    exact ⟨(by omega), how, (by omega), rfl, Mo.refl _ _⟩
  rintro ⟨j, v', k', ys⟩ HL1 hI1 K5 hN5 hE5
  obtain ⟨hj, how, hk, hys, hlm1⟩ := hI1
  replace hm0 := hm0.trans hlm1 (fun b hb0 hb1 => hb1) (fun b hb0 hb1 => by omega)
  have hz1 := hlm1.size
  have hle_how := how.le
  have hyl : ys.length + j = xs.length + n := by have := congrArg List.length hys; simpa [numL_len] using this
  refine CW.seq (fun K6 hK6 hE6 => ?_)
  refine CW.seq (fun K7 hK7 hE7 => ?_)
  refine CW.region ?_
  refine LR.v (Y.move rfl rfl) (Wd.u rfl) rfl rfl ?_
  refine LR.v (Y.geq rfl rfl rfl) (Wd.u rfl) rfl rfl ?_
  refine LR.nil ?_
  refine hK7 _ _ ?_
  refine CW.condp rfl (fun c11 => ?_) (fun c11 => ?_)
  ·
    obtain ⟨j, rfl⟩ : ∃ q, j = q + 1 := ⟨j - 1, by omega⟩
    refine CW.skip ?_
    refine hK6 _ _ ?_
    refine CW.seq (fun K8 hK8 hE8 => ?_)
    refine CW.block (fun K9 hK9 hX9 hE9 => ?_)
    refine CW.region ?_
    refine LR.v (Y.move rfl rfl) (Wd.u rfl) rfl rfl ?_
    refine LR.v (Y.move rfl rfl) (Wd.u rfl) rfl rfl ?_
    refine LR.v (Y.move rfl rfl) (Wd.u rfl) rfl rfl ?_
    refine LR.v (Y.muli rfl rfl rfl (by omega)) (Wd.u rfl) rfl rfl ?_
    refine LR.v (Y.shr_u64 (8 * j) rfl rfl rfl (by first | rfl | omega) (by omega)) (Wd.u rfl) rfl rfl ?_
    refine LR.v (Y.conv_u8 rfl Tryd.runUnderlying83 Tryd.runUnderlying5 rfl) (Wd.u rfl) rfl rfl ?_
    refine LR.z (Z.litw _ ([UInt8.ofNat (shrw_u64 x (8 * j)).toNat]) rfl inf23 rfl rfl rfl (by decide) (by decide) fB_len fB_one (rfl)) (Wd.u rfl) rfl rfl (fun v20 H20 r20 => ?_)
    obtain ⟨ow20, hs20, ob20, hH20⟩ := r20
    have hzs20 : H20.size = HL1.size + 1 := by rw [hH20]; simp
    replace hm0 := hm0.trans hs20 (fun b hb0 hb1 => hb1) (fun b hb0 hb1 => hb1.elim)
    replace how := how.nw hs20
    try replace hlm1 := hlm1.trans hs20 (fun b hb0 hb1 => hb1) (fun b hb0 hb1 => hb1.elim)
    have hz2 := hs20.size
    have hle_ow20 := ow20.le
    refine LR.z (Z.apnd how ow20.rd rfl inf23 rfl rfl (by first | omega | (simp; omega)) (by first | omega | (simp; omega))) (Wd.u rfl) rfl rfl (fun v21 H21 r21 => ?_)
    obtain ⟨k21, ow21, hk21, hs21⟩ := r21
    replace hm0 := hm0.trans hs21 (fun b hb0 hb1 => hb1) (fun b hb0 hb1 => by omega)
    try replace hlm1 := hlm1.trans hs21 (fun b hb0 hb1 => hb1) (fun b hb0 hb1 => by omega)
    replace ow20 := ow20.up hs21 (fun b hb0 hb1 hb2 => by omega)
    have hz3 := hs21.size
    have hle_ow21 := ow21.le
    refine LR.v (Y.assign rfl rfl) (Wd.u rfl) rfl rfl ?_
    refine LR.nil ?_
    refine hK9 _ _ ?_
    refine hK8 _ _ ?_
    refine CW.region ?_
    refine LR.v (Y.move rfl rfl) (Wd.u rfl) rfl rfl ?_
    refine LR.v (Y.subi rfl rfl rfl (by omega)) (Wd.u rfl) rfl rfl ?_
    refine LR.v (Y.assign rfl rfl) (Wd.u rfl) rfl rfl ?_
    refine LR.nil ?_
    refine QN.sub (hN5 (j, v21, k21, ys ++ [UInt8.ofNat (shrw_u64 x (8 * j)).toNat]) _ ?_ ?_) ⟨rfl, (iv (by omega)), (iv (by omega)), trivial⟩
    · exact ⟨(by omega), ow21, (by omega), by rw [← hys, List.append_assoc]; rfl, hlm1⟩
    · first | omega | (simp only; omega) | (simp; omega)
  ·
    obtain rfl : j = 0 := by omega
    rw [numL, List.append_nil] at hys
    subst hys
    refine CW.exit (hE6 (.exit 0) nofun _ _ (hE5 (.exit 0) nofun _ _ (hX4 _ _ ?_)))
    refine hK2 _ _ ?_
    refine CW.seq (fun K10 hK10 hE10 => ?_)
    refine CW.region ?_
    refine LR.v (Y.move rfl rfl) (Wd.u rfl) rfl rfl ?_
    refine LR.v (Y.assign rfl rfl) (Wd.u rfl) rfl rfl ?_
    refine LR.nil ?_
    refine hK10 _ _ ?_
    refine CW.ret (hret .ret (.inr rfl) _ _ _ (res1 rfl rfl) ?_)
    exact ⟨v', k', rfl, how, (by omega), hm0⟩

end Go.Proofs.YtdliddjkacbggaaDoor.SumE
/-
  The document's sum of a row of bytes.
-/
namespace Go.Proofs.YtdliddjkacbggaaDoor.SumF
open Go.Proofs.YtdliddjkacbggaaDoor.E Go.RowKit Go.Proofs.YtdliddjkacbggaaDoor.SumA Go.Proofs.YtdliddjkacbggaaDoor.SumB Go.Proofs.YtdliddjkacbggaaDoor.SumC Go.Proofs.YtdliddjkacbggaaDoor.SumD Go.Proofs.YtdliddjkacbggaaDoor.SumE
set_option maxRecDepth 20000
set_option linter.unusedVariables false
set_option linter.unusedSimpArgs false
set_option linter.unusedSectionVars false
set_option maxRecDepth 100000 in
theorem inf23 : Inf Tryd.prog 23 5 1 1 := ⟨Tryd.underlying23, _, _, rfl, rfl, rfl, rfl, rfl⟩

def padZ (n : Nat) : Nat := (119 - n % 64) % 64
def padOf (n : Nat) : List UInt8 := 0x80 :: (List.replicate (padZ n) 0 ++ numL 8 (UInt64.ofNat (8 * n)))
theorem pad_len (m : List UInt8) : (m ++ padOf m.length).length % 64 = 0 ∧ (m ++ padOf m.length).length = m.length + padZ m.length + 9 := by
  have h : (m ++ padOf m.length).length = m.length + padZ m.length + 9 := by simp [padOf, numL_len]; omega
  refine ⟨?_, h⟩
  rw [h, padZ]; omega
def outL (s : List UInt32) : List UInt8 := (List.range 32).map (fun i => UInt8.ofNat (shrw_u32 (s.getD (i / 4) 0) (24 - 8 * (i % 4))).toNat)
theorem outL_len (s : List UInt32) : (outL s).length = 32 := by simp [outL]
/-- the sum of bytes -/
def sumOf (m : List UInt8) : List UInt8 := outL (run IV (m ++ padOf m.length)).1.list
theorem sumOf_len (m : List UInt8) : (sumOf m).length = 32 := outL_len _
theorem run_take (M : List UInt8) (j : Nat) (st : S8) (h : run IV (M.take (64 * j)) = (st, [])) (hj : 64 * j + 64 ≤ M.length) : run IV (M.take (64 * (j + 1))) = (compress st ((M.drop (64 * j)).take 64), []) := by
  have e : M.take (64 * (j + 1)) = M.take (64 * j) ++ (M.drop (64 * j)).take 64 := by
    rw [show 64 * (j + 1) = 64 * j + 64 by omega, List.take_add]
  have hl : ((M.drop (64 * j)).take 64).length = 64 := by simp; omega
  rw [e, run_more, h]
  simp only [List.nil_append]
  rw [run_ge _ _ (by omega), List.take_of_length_le (l := (M.drop (64 * j)).take 64) (by omega), List.drop_of_length_le (l := (M.drop (64 * j)).take 64) (by omega), run_lt _ _ (by simp)]
theorem blk_get (M : List UInt8) (j c : Nat) (hc : c < 64) (hj : 64 * j + 64 ≤ M.length) (q : Nat) (hq : q = 64 * j + c) (h : q < M.length) : M[q] = ((M.drop (64 * j)).take 64).getD c 0 := by
  subst hq
  simp [List.getD, hc, h, show c < M.length - 64 * j by omega]
theorem map_set8 (w : List UInt8) (j : Nat) (x : UInt8) : (w.map V8).set (0 + j) (V8 x) = (w.set j x).map V8 := by rw [Nat.zero_add, List.map_set]
theorem take8_succ (w r : List UInt8) (i : Nat) (x : UInt8) (h : w.take i = r.take i) (hi : i < w.length) (hr : r[i]? = some x) : (w.set i x).take (i + 1) = r.take (i + 1) := by
  have h2 := (List.getElem?_eq_some_iff.1 hr)
  obtain ⟨h3, h4⟩ := h2
  rw [take_set_succ _ _ _ hi, h, List.take_succ_eq_append_getElem h3, h4]
theorem outL_get (s : List UInt32) (i : Nat) (h : i < 32) : (outL s)[i]? = some (UInt8.ofNat (shrw_u32 (s.getD (i / 4) 0) (24 - 8 * (i % 4))).toNat) := by
  simp [outL, h]

set_option maxHeartbeats 4000000 in
theorem rof_ct (v : Value) (m : List UInt8) (w0 : World) (H0 : Heap)
    (hr : RdT H0 fB 1 v m) (hml : m.length ≤ 1048576) :
    Ct Tryd.prog w0 39 #[v] H0 (fun r H2 => r = .agg ((sumOf m).map V8).toArray ∧ Mo (fun c => False) H0 H2) := by
  refine Ct.enter (args := [v]) Tryd.func39 rfl rfl rfl ?_
  intro Q0 hret
  replace hr := hr.lt
  have hm0 : Mo (fun c => False) H0 H0 := Mo.refl _ _
  refine CW.seq (fun K1 hK1 hE1 => ?_)
  refine CW.region ?_
  refine LR.z (Z.allocv rfl Tryd.zeroValue80) (Wd.u rfl) rfl rfl (fun v2 H2 r2 => ?_)
  obtain ⟨rfl, va2, hs2, ob2, hH2⟩ := r2
  have hzs2 : H2.size = H0.size + 1 := by rw [hH2]; simp
  replace hr := hr.nw hs2
  replace hm0 := hm0.trans hs2 (fun b hb0 hb1 => hb1) (fun b hb0 hb1 => hb1.elim)
  have hz1 := hs2.size
  have hlt_va2 := va2.lt
  replace va2 : Var 80 H2 H0.size ((List.replicate 32 (0 : UInt8)).map V8) := va2
  refine LR.nil ?_
  refine hK1 _ _ ?_
  refine CW.seq (fun K2 hK2 hE2 => ?_)
  refine CW.region ?_
  refine LR.v (Y.build (v := .agg (KS.map V32).toArray) rfl rfl (by intro w; kernel_rfl)) (Wd.u rfl) rfl rfl ?_
  refine LR.z (Z.allocv rfl Tryd.zeroValue107) (Wd.u rfl) rfl rfl (fun v3 H3 r3 => ?_)
  obtain ⟨rfl, va3, hs3, ob3, hH3⟩ := r3
  have hzs3 : H3.size = H2.size + 1 := by rw [hH3]; simp
  replace hr := hr.nw hs3
  replace hm0 := hm0.trans hs3 (fun b hb0 hb1 => hb1) (fun b hb0 hb1 => hb1.elim)
  replace va2 := va2.nw hs3
  have hz2 := hs3.size
  have hlt_va3 := va3.lt
  replace va3 : Var 107 H3 H2.size (List.replicate 64 (V32 0)) := va3
  refine LR.s (S.var va3 (KS.map V32) (KS.map V32) rfl rfl rfl rfl (by intro u hu; obtain ⟨x, _, rfl⟩ := List.mem_map.1 hu; rfl) Tryd.sizeOf107 (rfl) (Nat.le_of_ble_eq_true rfl) (by kernel_rfl)) (Wd.u rfl) rfl (fun H1_2 r1_2 => ?_)
  obtain ⟨va3, hs1_2⟩ := r1_2
  replace hr := hr.up hs1_2 (fun b hb0 hb1 hb2 => by omega)
  replace hm0 := hm0.trans hs1_2 (fun b hb0 hb1 => hb1) (fun b hb0 hb1 => by omega)
  replace va2 := va2.up hs1_2 (by omega)
  have hz3 := hs1_2.size
  refine LR.nil ?_
  refine hK2 _ _ ?_
  refine CW.seq (fun K3 hK3 hE3 => ?_)
  refine CW.region ?_
  refine LR.v (Y.build (v := .agg (IV.list.map V32).toArray) rfl rfl (by intro w; kernel_rfl)) (Wd.u rfl) rfl rfl ?_
  refine LR.z (Z.allocv rfl Tryd.zeroValue108) (Wd.u rfl) rfl rfl (fun v4 H4 r4 => ?_)
  obtain ⟨rfl, va4, hs4, ob4, hH4⟩ := r4
  have hzs4 : H4.size = H1_2.size + 1 := by rw [hH4]; simp
  replace hr := hr.nw hs4
  replace hm0 := hm0.trans hs4 (fun b hb0 hb1 => hb1) (fun b hb0 hb1 => hb1.elim)
  replace va2 := va2.nw hs4
  replace va3 := va3.nw hs4
  have hz4 := hs4.size
  have hlt_va4 := va4.lt
  replace va4 : Var 108 H4 H1_2.size (List.replicate 8 (V32 0)) := va4
  refine LR.s (S.var va4 (IV.list.map V32) (IV.list.map V32) rfl rfl rfl rfl (by intro u hu; obtain ⟨x, _, rfl⟩ := List.mem_map.1 hu; rfl) Tryd.sizeOf108 (rfl) (Nat.le_of_ble_eq_true rfl) (by kernel_rfl)) (Wd.u rfl) rfl (fun H2_2 r2_2 => ?_)
  obtain ⟨va4, hs2_2⟩ := r2_2
  replace hr := hr.up hs2_2 (fun b hb0 hb1 hb2 => by omega)
  replace hm0 := hm0.trans hs2_2 (fun b hb0 hb1 => hb1) (fun b hb0 hb1 => by omega)
  replace va2 := va2.up hs2_2 (by omega)
  replace va3 := va3.up hs2_2 (by omega)
  have hz5 := hs2_2.size
  refine LR.nil ?_
  refine hK3 _ _ ?_
  refine CW.seq (fun K4 hK4 hE4 => ?_)
  refine CW.region ?_
  refine LR.z (Z.litw _ (([] : List UInt8)) rfl inf23 rfl rfl rfl (by decide) (by decide) fB_len fB_one (rfl)) (Wd.u rfl) rfl rfl (fun v24 H24 r24 => ?_)
  obtain ⟨ow24, hs24, ob24, hH24⟩ := r24
  have hzs24 : H24.size = H2_2.size + 1 := by rw [hH24]; simp
  replace hr := hr.nw hs24
  replace hm0 := hm0.trans hs24 (fun b hb0 hb1 => hb1) (fun b hb0 hb1 => hb1.elim)
  replace va2 := va2.nw hs24
  replace va3 := va3.nw hs24
  replace va4 := va4.nw hs24
  have hz6 := hs24.size
  have hle_ow24 := ow24.le
  refine LR.v (Y.move rfl rfl) (Wd.u rfl) rfl rfl ?_
  refine LR.z (Z.apnd ow24 hr rfl inf23 rfl rfl (by first | omega | (simp; omega)) (by first | omega | (simp; omega))) (Wd.u rfl) rfl rfl (fun v26 H26 r26 => ?_)
  obtain ⟨k26, ow26, hk26, hs26⟩ := r26
  replace hr := hr.up hs26 (fun b hb0 hb1 hb2 => by omega)
  replace hm0 := hm0.trans hs26 (fun b hb0 hb1 => hb1) (fun b hb0 hb1 => by omega)
  replace va2 := va2.up hs26 (by omega)
  replace va3 := va3.up hs26 (by omega)
  replace va4 := va4.up hs26 (by omega)
  have hz7 := hs26.size
  have hle_ow26 := ow26.le
  refine LR.z (Z.litw _ ([(0x80 : UInt8)]) rfl inf23 rfl rfl rfl (by decide) (by decide) fB_len fB_one (rfl)) (Wd.u rfl) rfl rfl (fun v27 H27 r27 => ?_)
  obtain ⟨ow27, hs27, ob27, hH27⟩ := r27
  have hzs27 : H27.size = H26.size + 1 := by rw [hH27]; simp
  replace hr := hr.nw hs27
  replace hm0 := hm0.trans hs27 (fun b hb0 hb1 => hb1) (fun b hb0 hb1 => hb1.elim)
  replace va2 := va2.nw hs27
  replace va3 := va3.nw hs27
  replace va4 := va4.nw hs27
  replace ow26 := ow26.nw hs27
  have hz8 := hs27.size
  have hle_ow27 := ow27.le
  refine LR.z (Z.apnd ow26 ow27.rd rfl inf23 rfl rfl (by first | omega | (simp; omega)) (by first | omega | (simp; omega))) (Wd.u rfl) rfl rfl (fun v28 H28 r28 => ?_)
  obtain ⟨k28, ow5, hk28, hs28⟩ := r28
  replace hr := hr.up hs28 (fun b hb0 hb1 hb2 => by omega)
  replace hm0 := hm0.trans hs28 (fun b hb0 hb1 => hb1) (fun b hb0 hb1 => by omega)
  replace va2 := va2.up hs28 (by omega)
  replace va3 := va3.up hs28 (by omega)
  replace va4 := va4.up hs28 (by omega)
  replace ow27 := ow27.up hs28 (fun b hb0 hb1 hb2 => by omega)
  have hz9 := hs28.size
  have hle_ow5 := ow5.le
  refine LR.v (Y.assign rfl rfl) (Wd.u rfl) rfl rfl ?_
  refine LR.nil ?_
  refine hK4 _ _ ?_
  refine CW.seq (fun K5 hK5 hE5 => ?_)
  refine CW.block (fun K6 hK6 hX6 hE6 => ?_)
  refine CW.loop (fun (s_ : (Nat) × (Value) × (Nat)) => match s_ with | (q, v5, k5) => [(0, v), (2, .pointer (some ⟨H0.size, 0, none⟩)), (3, .pointer (some ⟨H2.size, 0, none⟩)), (4, .pointer (some ⟨H1_2.size, 0, none⟩)), (5, v5)])
    (fun (s_ : (Nat) × (Value) × (Nat)) (H : Heap) => match s_ with | (q, v5, k5) => (q ≤ padZ m.length) ∧ (Ow k5 5 H fB 1 v5 ([] ++ m ++ [0x80] ++ List.replicate q 0)) ∧ (k5 = 0 ∨ k5 = k28 ∨ H28.size < k5) ∧ Mo (fun c => c + 1 = k28) H28 H)
    (fun (s_ : (Nat) × (Value) × (Nat)) => match s_ with | (q, v5, k5) => padZ m.length - q) (0, v28, k28) ⟨rfl, rfl, rfl, rfl, rfl, trivial⟩ ?_ ?_
  ·
    rw [show [] ++ m ++ [(0x80 : UInt8)] = [] ++ m ++ [0x80] ++ List.replicate 0 0 by simp] at ow5
    exact ⟨(by omega), ow5, (by omega), Mo.refl _ _⟩
  rintro ⟨q, v5, k5⟩ HL1 hI1 K7 hN7 hE7
  obtain ⟨hq, ow5, hk5, hlm1⟩ := hI1
  replace hr := hr.up hlm1 (fun b hb0 hb1 hb2 => by omega)
  replace hm0 := hm0.trans hlm1 (fun b hb0 hb1 => hb1) (fun b hb0 hb1 => by omega)
  replace va2 := va2.up hlm1 (by omega)
  replace va3 := va3.up hlm1 (by omega)
  replace va4 := va4.up hlm1 (by omega)
  replace ow27 := ow27.up hlm1 (fun b hb0 hb1 hb2 => by omega)
  have hz10 := hlm1.size
  have hle_ow5 := ow5.le
  have hl5 : ([] ++ m ++ [(0x80 : UInt8)] ++ List.replicate q 0).length = m.length + 1 + q := by simp; omega
  have hpz : padZ m.length = (119 - m.length % 64) % 64 := rfl
  refine CW.seq (fun K8 hK8 hE8 => ?_)
  refine CW.seq (fun K9 hK9 hE9 => ?_)
  refine CW.region ?_
  refine LR.v (Y.move rfl rfl) (Wd.u rfl) rfl rfl ?_
  refine LR.v (Y.len ow5.rd rfl Tryd.runUnderlying23 rfl) (Wd.u rfl) rfl rfl ?_
  refine LR.v (Y.remi rfl rfl rfl (by omega)) (Wd.u rfl) rfl rfl ?_
  refine LR.v (Y.neq rfl rfl rfl) (Wd.u rfl) rfl rfl ?_
  refine LR.nil ?_
  refine hK9 _ _ ?_
  refine CW.condp rfl (fun c32 => ?_) (fun c32 => ?_)
  ·
    refine CW.skip ?_
    refine hK8 _ _ ?_
    refine CW.block (fun K10 hK10 hX10 hE10 => ?_)
    refine CW.region ?_
    refine LR.v (Y.move rfl rfl) (Wd.u rfl) rfl rfl ?_
    refine LR.z (Z.litw _ ([(0 : UInt8)]) rfl inf23 rfl rfl rfl (by decide) (by decide) fB_len fB_one (rfl)) (Wd.u rfl) rfl rfl (fun v34 H34 r34 => ?_)
    obtain ⟨ow34, hs34, ob34, hH34⟩ := r34
    have hzs34 : H34.size = HL1.size + 1 := by rw [hH34]; simp
    replace hr := hr.nw hs34
    replace hm0 := hm0.trans hs34 (fun b hb0 hb1 => hb1) (fun b hb0 hb1 => hb1.elim)
    replace va2 := va2.nw hs34
    replace va3 := va3.nw hs34
    replace va4 := va4.nw hs34
    replace ow27 := ow27.nw hs34
    replace ow5 := ow5.nw hs34
    try replace hlm1 := hlm1.trans hs34 (fun b hb0 hb1 => hb1) (fun b hb0 hb1 => hb1.elim)
    have hz11 := hs34.size
    have hle_ow34 := ow34.le
    refine LR.z (Z.apnd ow5 ow34.rd rfl inf23 rfl rfl (by first | omega | (simp; omega)) (by first | omega | (simp; omega))) (Wd.u rfl) rfl rfl (fun v35 H35 r35 => ?_)
    obtain ⟨k35, ow35, hk35, hs35⟩ := r35
    replace hr := hr.up hs35 (fun b hb0 hb1 hb2 => by omega)
    replace hm0 := hm0.trans hs35 (fun b hb0 hb1 => hb1) (fun b hb0 hb1 => by omega)
    replace va2 := va2.up hs35 (by omega)
    replace va3 := va3.up hs35 (by omega)
    replace va4 := va4.up hs35 (by omega)
    replace ow27 := ow27.up hs35 (fun b hb0 hb1 hb2 => by omega)
    try replace hlm1 := hlm1.trans hs35 (fun b hb0 hb1 => hb1) (fun b hb0 hb1 => by omega)
    replace ow34 := ow34.up hs35 (fun b hb0 hb1 hb2 => by omega)
    have hz12 := hs35.size
    have hle_ow35 := ow35.le
    refine LR.v (Y.assign rfl rfl) (Wd.u rfl) rfl rfl ?_
    refine LR.nil ?_
    refine hK10 _ _ ?_
    refine QN.sub (hN7 (q + 1, v35, k35) _ ?_ ?_) ⟨rfl, rfl, rfl, rfl, rfl, trivial⟩
    · exact ⟨(by omega), by rw [List.replicate_succ', ← List.append_assoc]; exact ow35, (by omega), hlm1⟩
    · first | omega | (simp only; omega) | (simp; omega)
  ·
    obtain rfl : q = padZ m.length := by omega
    refine CW.exit (hE8 (.exit 0) nofun _ _ (hE7 (.exit 0) nofun _ _ (hX6 _ _ ?_)))
    refine hK5 _ _ ?_
    refine CW.seq (fun K11 hK11 hE11 => ?_)
    refine CW.region ?_
    refine LR.v (Y.move rfl rfl) (Wd.u rfl) rfl rfl ?_
    refine LR.v (Y.move rfl rfl) (Wd.u rfl) rfl rfl ?_
    refine LR.v (Y.len hr rfl Tryd.runUnderlying23 rfl) (Wd.u rfl) rfl rfl ?_
    refine LR.v (Y.cast (v2 := .int .i64 ((8 * m.length : Nat) : Int)) (Y.muli rfl rfl rfl (by omega)) (ivv (by omega))) (Wd.u rfl) rfl rfl ?_
    refine LR.v (Y.conv_u64 rfl Tryd.runUnderlying3 Tryd.runUnderlying83 rfl) (Wd.u rfl) rfl rfl ?_
    -- call selvage/selvageref1.Num
    refine LR.call rfl Tryd.call40 rfl (Wd.u rfl) rfl rfl (num_ct k5 v5 _ 8 (UInt64.ofNat (8 * m.length)) w0 _ ow5 (by omega) (by omega)) (fun v41 H41 r41 => ?_)
    obtain ⟨v241, k6, rfl, ow5, hk41, hs41⟩ := r41
    replace hr := hr.up hs41 (fun b hb0 hb1 hb2 => by omega)
    replace hm0 := hm0.trans hs41 (fun b hb0 hb1 => hb1) (fun b hb0 hb1 => by omega)
    replace va2 := va2.up hs41 (by omega)
    replace va3 := va3.up hs41 (by omega)
    replace va4 := va4.up hs41 (by omega)
    replace ow27 := ow27.up hs41 (fun b hb0 hb1 hb2 => by omega)
    have hz13 := hs41.size
    have hle_ow5 := ow5.le
    replace ow5 : Ow k6 5 H41 fB 1 v41 (m ++ padOf m.length) := by simpa [padOf] using ow5
    obtain ⟨hp64, hpl⟩ := pad_len m
    refine LR.v (Y.assign rfl rfl) (Wd.u rfl) rfl rfl ?_
    refine LR.nil ?_
    refine hK11 _ _ ?_
    refine CW.seq (fun K12 hK12 hE12 => ?_)
    refine CW.region ?_
    refine LR.z (Z.allocv rfl Tryd.zeroValue107) (Wd.u rfl) rfl rfl (fun v6 H6 r6 => ?_)
    obtain ⟨rfl, va6, hs6, ob6, hH6⟩ := r6
    have hzs6 : H6.size = H41.size + 1 := by rw [hH6]; simp
    replace hr := hr.nw hs6
    replace hm0 := hm0.trans hs6 (fun b hb0 hb1 => hb1) (fun b hb0 hb1 => hb1.elim)
    replace va2 := va2.nw hs6
    replace va3 := va3.nw hs6
    replace va4 := va4.nw hs6
    replace ow27 := ow27.nw hs6
    replace ow5 := ow5.nw hs6
    have hz14 := hs6.size
    have hlt_va6 := va6.lt
    replace va6 : Var 107 H6 H41.size ((List.replicate 64 (0 : UInt32)).map V32) := va6
    refine LR.nil ?_
    refine hK12 _ _ ?_
    refine CW.seq (fun K13 hK13 hE13 => ?_)
    refine CW.seq (fun K14 hK14 hE14 => ?_)
    refine CW.region ?_
    refine LR.v (Y.assign rfl rfl) (Wd.u rfl) rfl rfl ?_
    refine LR.nil ?_
    refine hK14 _ _ ?_
    refine CW.block (fun K15 hK15 hX15 hE15 => ?_)
    refine CW.loop (fun (s_ : (Nat) × (S8) × (List UInt32)) => match s_ with | (j, st, w) => [(2, .pointer (some ⟨H0.size, 0, none⟩)), (3, .pointer (some ⟨H2.size, 0, none⟩)), (4, .pointer (some ⟨H1_2.size, 0, none⟩)), (5, v41), (6, .pointer (some ⟨H41.size, 0, none⟩)), (7, .int .i64 ((64 * j : Nat) : Int))])
      (fun (s_ : (Nat) × (S8) × (List UInt32)) (H : Heap) => match s_ with | (j, st, w) => (64 * j ≤ (m ++ padOf m.length).length) ∧ (run IV ((m ++ padOf m.length).take (64 * j)) = (st, [])) ∧ (w.length = 64) ∧ (Var 108 H H1_2.size (st.list.map V32)) ∧ (Var 107 H H41.size (w.map V32)) ∧ Mo (fun c => c = H1_2.size ∨ c = H41.size) H6 H)
      (fun (s_ : (Nat) × (S8) × (List UInt32)) => match s_ with | (j, st, w) => (m ++ padOf m.length).length - 64 * j) (0, IV, List.replicate 64 0) ⟨rfl, rfl, rfl, rfl, rfl, rfl, trivial⟩ ?_ ?_
    ·
      exact ⟨(by omega), by rw [Nat.mul_zero, List.take_zero, run_lt IV [] (by simp)], by simp, va4, va6, Mo.refl _ _⟩
    rintro ⟨j, st, w⟩ HL2 hI2 K16 hN16 hE16
    obtain ⟨hj, hst, hwl, va4, va6, hlm2⟩ := hI2
    replace hr := hr.up hlm2 (fun b hb0 hb1 hb2 => by omega)
    replace hm0 := hm0.trans hlm2 (fun b hb0 hb1 => hb1) (fun b hb0 hb1 => by omega)
    replace va2 := va2.up hlm2 (by omega)
    replace va3 := va3.up hlm2 (by omega)
    replace ow27 := ow27.up hlm2 (fun b hb0 hb1 hb2 => by omega)
    replace ow5 := ow5.up hlm2 (fun b hb0 hb1 hb2 => by omega)
    have hz15 := hlm2.size
    have hlt_va4 := va4.lt
    have hlt_va6 := va6.lt
    refine CW.seq (fun K17 hK17 hE17 => ?_)
    refine CW.seq (fun K18 hK18 hE18 => ?_)
    refine CW.region ?_
    refine LR.v (Y.move rfl rfl) (Wd.u rfl) rfl rfl ?_
    refine LR.v (Y.move rfl rfl) (Wd.u rfl) rfl rfl ?_
    refine LR.v (Y.len ow5.rd rfl Tryd.runUnderlying23 rfl) (Wd.u rfl) rfl rfl ?_
    refine LR.v (Y.lss rfl rfl rfl) (Wd.u rfl) rfl rfl ?_
    refine LR.nil ?_
    refine hK18 _ _ ?_
    refine CW.condp rfl (fun c45 => ?_) (fun c45 => ?_)
    ·
      refine CW.skip ?_
      refine hK17 _ _ ?_
      refine CW.seq (fun K19 hK19 hE19 => ?_)
      refine CW.block (fun K20 hK20 hX20 hE20 => ?_)
      refine CW.seq (fun K21 hK21 hE21 => ?_)
      refine CW.seq (fun K22 hK22 hE22 => ?_)
      refine CW.region ?_
      refine LR.v (Y.assign rfl rfl) (Wd.u rfl) rfl rfl ?_
      refine LR.nil ?_
      refine hK22 _ _ ?_
      refine CW.block (fun K23 hK23 hX23 hE23 => ?_)
      refine CW.loop (fun (s_ : (Nat) × (List UInt32)) => match s_ with | (i, w) => [(2, .pointer (some ⟨H0.size, 0, none⟩)), (3, .pointer (some ⟨H2.size, 0, none⟩)), (4, .pointer (some ⟨H1_2.size, 0, none⟩)), (5, v41), (6, .pointer (some ⟨H41.size, 0, none⟩)), (7, .int .i64 ((64 * j : Nat) : Int)), (8, .int .i64 i)])
        (fun (s_ : (Nat) × (List UInt32)) (H : Heap) => match s_ with | (i, w) => (i ≤ 16) ∧ (w.length = 64) ∧ (w.take i = first16 (((m ++ padOf m.length).drop (64 * j)).take 64) i) ∧ (Var 107 H H41.size (w.map V32)) ∧ Mo (fun c => c = H41.size) HL2 H)
        (fun (s_ : (Nat) × (List UInt32)) => match s_ with | (i, w) => 16 - i) (0, w) ⟨rfl, rfl, rfl, rfl, rfl, rfl, rfl, trivial⟩ ?_ ?_
      ·
        exact ⟨(by omega), hwl, by simp [first16], va6, Mo.refl _ _⟩
      rintro ⟨i, w⟩ HL3 hI3 K24 hN24 hE24
      obtain ⟨hi, hwl, hwt, va6, hlm3⟩ := hI3
      replace hr := hr.up hlm3 (fun b hb0 hb1 hb2 => by omega)
      replace hm0 := hm0.trans hlm3 (fun b hb0 hb1 => hb1) (fun b hb0 hb1 => by omega)
      replace va2 := va2.up hlm3 (by omega)
      replace va3 := va3.up hlm3 (by omega)
      replace ow27 := ow27.up hlm3 (fun b hb0 hb1 hb2 => by omega)
      replace ow5 := ow5.up hlm3 (fun b hb0 hb1 hb2 => by omega)
      replace va4 := va4.up hlm3 (by omega)
      try replace hlm2 := hlm2.trans hlm3 (fun b hb0 hb1 => hb1) (fun b hb0 hb1 => by omega)
      have hz16 := hlm3.size
      have hlt_va6 := va6.lt
      refine CW.seq (fun K25 hK25 hE25 => ?_)
      refine CW.seq (fun K26 hK26 hE26 => ?_)
      refine CW.region ?_
      refine LR.v (Y.move rfl rfl) (Wd.u rfl) rfl rfl ?_
      refine LR.v (Y.lss rfl rfl rfl) (Wd.u rfl) rfl rfl ?_
      refine LR.nil ?_
      refine hK26 _ _ ?_
      refine CW.condp rfl (fun c49 => ?_) (fun c49 => ?_)
      ·
        refine CW.skip ?_
        refine hK25 _ _ ?_
        refine CW.seq (fun K27 hK27 hE27 => ?_)
        refine CW.block (fun K28 hK28 hX28 hE28 => ?_)
        refine CW.region_tail 43 rfl (by kernel_rfl) (fun T14 hT14 => ?_)
        refine LR.v (Y.move rfl rfl) (Wd.u rfl) rfl rfl ?_
        refine LR.v (Y.move rfl rfl) (Wd.u rfl) rfl rfl ?_
        refine LR.v (Y.move rfl rfl) (Wd.u rfl) rfl rfl ?_
        refine LR.v (Y.move rfl rfl) (Wd.u rfl) rfl rfl ?_
        refine LR.v (Y.muli rfl rfl rfl (by omega)) (Wd.u rfl) rfl rfl ?_
        refine LR.v (Y.addi rfl rfl rfl (by omega)) (Wd.u rfl) rfl rfl ?_
        refine LR.v (Y.owAddr ow5 (64 * j + (4 * i + 0)) rfl Tryd.runUnderlying23 Tryd.sizeOf5 rfl rfl (by first | rfl | omega) (by first | omega | (simp; omega) | (simp; done))) (Wd.u rfl) rfl rfl ?_
        refine LR.v (Y.cast (v2 := .int .u8 ((((m ++ padOf m.length).drop (64 * j)).take 64).getD (4 * i + 0) 0).toNat) (Y.load1 (ow5.pt (j := 64 * j + (4 * i + 0)) (by first | omega | (simp; omega) | (simp; done))) rfl Tryd.isAgg5 rfl) (by rw [← blk_get (m ++ padOf m.length) j (4 * i + 0) (by omega) (by omega) _ rfl (by omega)])) (Wd.u rfl) rfl rfl ?_
        refine LR.v (Y.conv_u32 rfl Tryd.runUnderlying5 Tryd.runUnderlying106 rfl) (Wd.u rfl) rfl rfl ?_
        refine LR.v (Y.shl_u32 (24) rfl rfl rfl (by first | rfl | omega) (by omega)) (Wd.u rfl) rfl rfl ?_
        refine LR.v (Y.move rfl rfl) (Wd.u rfl) rfl rfl ?_
        refine LR.v (Y.move rfl rfl) (Wd.u rfl) rfl rfl ?_
        refine LR.v (Y.move rfl rfl) (Wd.u rfl) rfl rfl ?_
        refine LR.v (Y.muli rfl rfl rfl (by omega)) (Wd.u rfl) rfl rfl ?_
        refine LR.v (Y.addi rfl rfl rfl (by omega)) (Wd.u rfl) rfl rfl ?_
        refine LR.v (Y.addi rfl rfl rfl (by omega)) (Wd.u rfl) rfl rfl ?_
        refine LR.v (Y.owAddr ow5 (64 * j + (4 * i + 1)) rfl Tryd.runUnderlying23 Tryd.sizeOf5 rfl rfl (by first | rfl | omega) (by first | omega | (simp; omega) | (simp; done))) (Wd.u rfl) rfl rfl ?_
        refine LR.v (Y.cast (v2 := .int .u8 ((((m ++ padOf m.length).drop (64 * j)).take 64).getD (4 * i + 1) 0).toNat) (Y.load1 (ow5.pt (j := 64 * j + (4 * i + 1)) (by first | omega | (simp; omega) | (simp; done))) rfl Tryd.isAgg5 rfl) (by rw [← blk_get (m ++ padOf m.length) j (4 * i + 1) (by omega) (by omega) _ rfl (by omega)])) (Wd.u rfl) rfl rfl ?_
        refine LR.v (Y.conv_u32 rfl Tryd.runUnderlying5 Tryd.runUnderlying106 rfl) (Wd.u rfl) rfl rfl ?_
        refine LR.v (Y.shl_u32 (16) rfl rfl rfl (by first | rfl | omega) (by omega)) (Wd.u rfl) rfl rfl ?_
        refine LR.v (Y.or_u32 rfl rfl rfl) (Wd.u rfl) rfl rfl ?_
        refine LR.v (Y.move rfl rfl) (Wd.u rfl) rfl rfl ?_
        refine LR.v (Y.move rfl rfl) (Wd.u rfl) rfl rfl ?_
        refine LR.v (Y.move rfl rfl) (Wd.u rfl) rfl rfl ?_
        refine LR.v (Y.muli rfl rfl rfl (by omega)) (Wd.u rfl) rfl rfl ?_
        refine LR.v (Y.addi rfl rfl rfl (by omega)) (Wd.u rfl) rfl rfl ?_
        refine LR.v (Y.addi rfl rfl rfl (by omega)) (Wd.u rfl) rfl rfl ?_
        refine LR.v (Y.owAddr ow5 (64 * j + (4 * i + 2)) rfl Tryd.runUnderlying23 Tryd.sizeOf5 rfl rfl (by first | rfl | omega) (by first | omega | (simp; omega) | (simp; done))) (Wd.u rfl) rfl rfl ?_
        refine LR.v (Y.cast (v2 := .int .u8 ((((m ++ padOf m.length).drop (64 * j)).take 64).getD (4 * i + 2) 0).toNat) (Y.load1 (ow5.pt (j := 64 * j + (4 * i + 2)) (by first | omega | (simp; omega) | (simp; done))) rfl Tryd.isAgg5 rfl) (by rw [← blk_get (m ++ padOf m.length) j (4 * i + 2) (by omega) (by omega) _ rfl (by omega)])) (Wd.u rfl) rfl rfl ?_
        refine LR.v (Y.conv_u32 rfl Tryd.runUnderlying5 Tryd.runUnderlying106 rfl) (Wd.u rfl) rfl rfl ?_
        refine LR.v (Y.shl_u32 (8) rfl rfl rfl (by first | rfl | omega) (by omega)) (Wd.u rfl) rfl rfl ?_
        refine LR.v (Y.or_u32 rfl rfl rfl) (Wd.u rfl) rfl rfl ?_
        refine LR.v (Y.move rfl rfl) (Wd.u rfl) rfl rfl ?_
        refine LR.v (Y.move rfl rfl) (Wd.u rfl) rfl rfl ?_
        refine LR.v (Y.move rfl rfl) (Wd.u rfl) rfl rfl ?_
        refine LR.v (Y.muli rfl rfl rfl (by omega)) (Wd.u rfl) rfl rfl ?_
        refine LR.v (Y.addi rfl rfl rfl (by omega)) (Wd.u rfl) rfl rfl ?_
        refine LR.v (Y.addi rfl rfl rfl (by omega)) (Wd.u rfl) rfl rfl ?_
        refine LR.v (Y.owAddr ow5 (64 * j + (4 * i + 3)) rfl Tryd.runUnderlying23 Tryd.sizeOf5 rfl rfl (by first | rfl | omega) (by first | omega | (simp; omega) | (simp; done))) (Wd.u rfl) rfl rfl ?_
        refine LR.v (Y.cast (v2 := .int .u8 ((((m ++ padOf m.length).drop (64 * j)).take 64).getD (4 * i + 3) 0).toNat) (Y.load1 (ow5.pt (j := 64 * j + (4 * i + 3)) (by first | omega | (simp; omega) | (simp; done))) rfl Tryd.isAgg5 rfl) (by rw [← blk_get (m ++ padOf m.length) j (4 * i + 3) (by omega) (by omega) _ rfl (by omega)])) (Wd.u rfl) rfl rfl ?_
        refine LR.v (Y.conv_u32 rfl Tryd.runUnderlying5 Tryd.runUnderlying106 rfl) (Wd.u rfl) rfl rfl ?_
        refine LR.v (Y.or_u32 rfl rfl rfl) (Wd.u rfl) rfl rfl ?_
        refine LR.v (Y.arrAddr va6.pt (i) rfl Tryd.runUnderlying107 Tryd.sizeOf106 rfl rfl (by omega) (by first | omega | (simp; omega) | (simp; done))) (Wd.u rfl) rfl rfl ?_
        refine LR.nil (hT14 _ ?_)
        refine LR.s (S.var1 va6 (0 + (i)) (_) rfl rfl rfl (rfl) Tryd.sizeOf106 (by simp; omega) (map_set w i _)) (Wd.u rfl) rfl (fun H14_43 r14_43 => ?_)
        obtain ⟨va6, hs14_43⟩ := r14_43
        replace hr := hr.up hs14_43 (fun b hb0 hb1 hb2 => by omega)
        replace hm0 := hm0.trans hs14_43 (fun b hb0 hb1 => hb1) (fun b hb0 hb1 => by omega)
        replace va2 := va2.up hs14_43 (by omega)
        replace va3 := va3.up hs14_43 (by omega)
        replace ow27 := ow27.up hs14_43 (fun b hb0 hb1 hb2 => by omega)
        replace ow5 := ow5.up hs14_43 (fun b hb0 hb1 hb2 => by omega)
        replace va4 := va4.up hs14_43 (by omega)
        try replace hlm2 := hlm2.trans hs14_43 (fun b hb0 hb1 => hb1) (fun b hb0 hb1 => by omega)
        try replace hlm3 := hlm3.trans hs14_43 (fun b hb0 hb1 => hb1) (fun b hb0 hb1 => by omega)
        have hz17 := hs14_43.size
        refine LR.nil ?_
        refine hK28 _ _ ?_
        refine hK27 _ _ ?_
        refine CW.region ?_
        refine LR.v (Y.move rfl rfl) (Wd.u rfl) rfl rfl ?_
        refine LR.v (Y.addi rfl rfl rfl (by omega)) (Wd.u rfl) rfl rfl ?_
        refine LR.v (Y.assign rfl rfl) (Wd.u rfl) rfl rfl ?_
        refine LR.nil ?_
        refine QN.sub (hN24 (i + 1, w.set i (word4 ((((m ++ padOf m.length).drop (64 * j)).take 64).getD (4 * i) 0) ((((m ++ padOf m.length).drop (64 * j)).take 64).getD (4 * i + 1) 0) ((((m ++ padOf m.length).drop (64 * j)).take 64).getD (4 * i + 2) 0) ((((m ++ padOf m.length).drop (64 * j)).take 64).getD (4 * i + 3) 0))) _ ?_ ?_) ⟨rfl, rfl, rfl, rfl, rfl, (iv (by omega)), (iv (by omega)), trivial⟩
        · exact ⟨(by omega), by simp [hwl], by rw [take_set_succ _ _ _ (by omega), first16_succ, hwt], va6, hlm3⟩
        · first | omega | (simp only; omega) | (simp; omega)
      ·
        obtain rfl : i = 16 := by omega
        refine CW.exit (hE25 (.exit 4) nofun _ _ (hE24 (.exit 4) nofun _ _ (hX23 _ _ ?_)))
        refine hK21 _ _ ?_
        refine CW.seq (fun K29 hK29 hE29 => ?_)
        refine CW.seq (fun K30 hK30 hE30 => ?_)
        refine CW.region ?_
        refine LR.v (Y.assign rfl rfl) (Wd.u rfl) rfl rfl ?_
        refine LR.nil ?_
        refine hK30 _ _ ?_
        refine CW.block (fun K31 hK31 hX31 hE31 => ?_)
        refine CW.loop (fun (s_ : (Nat) × (List UInt32)) => match s_ with | (i, w) => [(2, .pointer (some ⟨H0.size, 0, none⟩)), (3, .pointer (some ⟨H2.size, 0, none⟩)), (4, .pointer (some ⟨H1_2.size, 0, none⟩)), (5, v41), (6, .pointer (some ⟨H41.size, 0, none⟩)), (7, .int .i64 ((64 * j : Nat) : Int)), (9, .int .i64 i)])
          (fun (s_ : (Nat) × (List UInt32)) (H : Heap) => match s_ with | (i, w) => (16 ≤ i) ∧ (i ≤ 64) ∧ (w.length = 64) ∧ (w.take i = schedL (first16 (((m ++ padOf m.length).drop (64 * j)).take 64) 16) (i - 16)) ∧ (Var 107 H H41.size (w.map V32)) ∧ Mo (fun c => c = H41.size) HL3 H)
          (fun (s_ : (Nat) × (List UInt32)) => match s_ with | (i, w) => 64 - i) (16, w) ⟨rfl, rfl, rfl, rfl, rfl, rfl, rfl, trivial⟩ ?_ ?_
        ·
          exact ⟨(by omega), (by omega), hwl, hwt, va6, Mo.refl _ _⟩
        rintro ⟨i, w⟩ HL4 hI4 K32 hN32 hE32
        obtain ⟨hi0, hi, hwl, hwt, va6, hlm4⟩ := hI4
        replace hr := hr.up hlm4 (fun b hb0 hb1 hb2 => by omega)
        replace hm0 := hm0.trans hlm4 (fun b hb0 hb1 => hb1) (fun b hb0 hb1 => by omega)
        replace va2 := va2.up hlm4 (by omega)
        replace va3 := va3.up hlm4 (by omega)
        replace ow27 := ow27.up hlm4 (fun b hb0 hb1 hb2 => by omega)
        replace ow5 := ow5.up hlm4 (fun b hb0 hb1 hb2 => by omega)
        replace va4 := va4.up hlm4 (by omega)
        try replace hlm2 := hlm2.trans hlm4 (fun b hb0 hb1 => hb1) (fun b hb0 hb1 => by omega)
        have hz18 := hlm4.size
        have hlt_va6 := va6.lt
        refine CW.seq (fun K33 hK33 hE33 => ?_)
        refine CW.seq (fun K34 hK34 hE34 => ?_)
        refine CW.region ?_
        refine LR.v (Y.move rfl rfl) (Wd.u rfl) rfl rfl ?_
        refine LR.v (Y.lss rfl rfl rfl) (Wd.u rfl) rfl rfl ?_
        refine LR.nil ?_
        refine hK34 _ _ ?_
        refine CW.condp rfl (fun c96 => ?_) (fun c96 => ?_)
        ·
          refine CW.skip ?_
          refine hK33 _ _ ?_
          refine CW.seq (fun K35 hK35 hE35 => ?_)
          refine CW.block (fun K36 hK36 hX36 hE36 => ?_)
          refine CW.seq (fun K37 hK37 hE37 => ?_)
          refine CW.region_any (fun Hq => Nw HL4 Hq) [] rfl ?_
          have hqs := Nw.refl HL4
          refine LH.take 0 (by kernel_rfl) rfl (by kernel_rfl) (by kernel_rfl) (by kernel_rfl) (fun Hq hq => Y.move rfl rfl) (Wd.u rfl) rfl rfl hqs ?_
          refine LH.take 1 (by kernel_rfl) rfl (by kernel_rfl) (by kernel_rfl) (by kernel_rfl) (fun Hq hq => Y.subi rfl rfl rfl (by omega)) (Wd.u rfl) rfl rfl hqs ?_
          refine LH.take 2 (by kernel_rfl) rfl (by kernel_rfl) (by kernel_rfl) (by kernel_rfl) (fun Hq hq => Y.arrAddr (va6.pt.nw hq) (i - 15) rfl Tryd.runUnderlying107 Tryd.sizeOf106 rfl rfl (by omega) (by first | omega | (simp; omega) | (simp; done))) (Wd.u rfl) rfl rfl hqs ?_
          refine LH.take 3 (by kernel_rfl) rfl (by kernel_rfl) (by kernel_rfl) (by kernel_rfl) (fun Hq hq => Y.load1 ((va6.pt.at (i - 15) (map_get w (i - 15) (by omega))).nw hq) rfl Tryd.isAgg106 rfl) (Wd.u rfl) rfl rfl hqs ?_
          refine LH.take 5 (by kernel_rfl) rfl (by kernel_rfl) (by kernel_rfl) (by kernel_rfl) (fun Hq hq => Y.move rfl rfl) (Wd.u rfl) rfl rfl hqs ?_
          refine LH.take 6 (by kernel_rfl) rfl (by kernel_rfl) (by kernel_rfl) (by kernel_rfl) (fun Hq hq => Y.subi rfl rfl rfl (by omega)) (Wd.u rfl) rfl rfl hqs ?_
          refine LH.take 7 (by kernel_rfl) rfl (by kernel_rfl) (by kernel_rfl) (by kernel_rfl) (fun Hq hq => Y.arrAddr (va6.pt.nw hq) (i - 15) rfl Tryd.runUnderlying107 Tryd.sizeOf106 rfl rfl (by omega) (by first | omega | (simp; omega) | (simp; done))) (Wd.u rfl) rfl rfl hqs ?_
          refine LH.take 8 (by kernel_rfl) rfl (by kernel_rfl) (by kernel_rfl) (by kernel_rfl) (fun Hq hq => Y.load1 ((va6.pt.at (i - 15) (map_get w (i - 15) (by omega))).nw hq) rfl Tryd.isAgg106 rfl) (Wd.u rfl) rfl rfl hqs ?_
          refine LH.take 11 (by kernel_rfl) rfl (by kernel_rfl) (by kernel_rfl) (by kernel_rfl) (fun Hq hq => Y.move rfl rfl) (Wd.u rfl) rfl rfl hqs ?_
          refine LH.take 12 (by kernel_rfl) rfl (by kernel_rfl) (by kernel_rfl) (by kernel_rfl) (fun Hq hq => Y.subi rfl rfl rfl (by omega)) (Wd.u rfl) rfl rfl hqs ?_
          refine LH.take 13 (by kernel_rfl) rfl (by kernel_rfl) (by kernel_rfl) (by kernel_rfl) (fun Hq hq => Y.arrAddr (va6.pt.nw hq) (i - 15) rfl Tryd.runUnderlying107 Tryd.sizeOf106 rfl rfl (by omega) (by first | omega | (simp; omega) | (simp; done))) (Wd.u rfl) rfl rfl hqs ?_
          refine LH.take 14 (by kernel_rfl) rfl (by kernel_rfl) (by kernel_rfl) (by kernel_rfl) (fun Hq hq => Y.load1 ((va6.pt.at (i - 15) (map_get w (i - 15) (by omega))).nw hq) rfl Tryd.isAgg106 rfl) (Wd.u rfl) rfl rfl hqs ?_
          refine LH.take 15 (by kernel_rfl) rfl (by kernel_rfl) (by kernel_rfl) (by kernel_rfl) (fun Hq hq => Y.shr_u32 (3) rfl rfl rfl (by first | rfl | omega) (by omega)) (Wd.u rfl) rfl rfl hqs ?_
          refine LH.one (i := 4) (by kernel_rfl) ?_
          -- call selvage/selvageref1.turn
          refine LO.call rfl rfl Tryd.call58 rfl (Wd.u rfl) rfl rfl (rturn_nw _ 7 w0 _ (by omega) (by omega)) (fun v103 H103 r103 => ?_)
          obtain ⟨rfl, hs103⟩ := r103
          replace hr := hr.nw hs103
          replace hm0 := hm0.trans hs103 (fun b hb0 hb1 => hb1) (fun b hb0 hb1 => hb1.elim)
          replace va2 := va2.nw hs103
          replace va3 := va3.nw hs103
          replace ow27 := ow27.nw hs103
          replace ow5 := ow5.nw hs103
          replace va4 := va4.nw hs103
          try replace hlm2 := hlm2.trans hs103 (fun b hb0 hb1 => hb1) (fun b hb0 hb1 => hb1.elim)
          replace va6 := va6.nw hs103
          try replace hlm4 := hlm4.trans hs103 (fun b hb0 hb1 => hb1) (fun b hb0 hb1 => hb1.elim)
          have hz19 := hs103.size
          have hq103 := hqs.tr hs103
          refine ⟨.inr hq103, LH.narrow (SH2 := fun Hq => Nw H103 Hq) (fun Hq hq => hq103.tr hq) ?_⟩
          have hqn103 := Nw.refl H103
          refine LH.one (i := 9) (by kernel_rfl) ?_
          -- call selvage/selvageref1.turn
          refine LO.call rfl rfl Tryd.call58 rfl (Wd.u rfl) rfl rfl (rturn_nw _ 18 w0 _ (by omega) (by omega)) (fun v108 H108 r108 => ?_)
          obtain ⟨rfl, hs108⟩ := r108
          replace hr := hr.nw hs108
          replace hm0 := hm0.trans hs108 (fun b hb0 hb1 => hb1) (fun b hb0 hb1 => hb1.elim)
          replace va2 := va2.nw hs108
          replace va3 := va3.nw hs108
          replace ow27 := ow27.nw hs108
          replace ow5 := ow5.nw hs108
          replace va4 := va4.nw hs108
          try replace hlm2 := hlm2.trans hs108 (fun b hb0 hb1 => hb1) (fun b hb0 hb1 => hb1.elim)
          replace va6 := va6.nw hs108
          try replace hlm4 := hlm4.trans hs108 (fun b hb0 hb1 => hb1) (fun b hb0 hb1 => hb1.elim)
          have hz20 := hs108.size
          have hq108 := hqn103.tr hs108
          refine ⟨.inr hq108, LH.narrow (SH2 := fun Hq => Nw H108 Hq) (fun Hq hq => hq108.tr hq) ?_⟩
          have hqn108 := Nw.refl H108
          refine LH.take 10 (by kernel_rfl) rfl (by kernel_rfl) (by kernel_rfl) (by kernel_rfl) (fun Hq hq => Y.xor_u32 rfl rfl rfl) (Wd.u rfl) rfl rfl hqn108 ?_
          refine LH.take 16 (by kernel_rfl) rfl (by kernel_rfl) (by kernel_rfl) (by kernel_rfl) (fun Hq hq => Y.xor_u32 rfl rfl rfl) (Wd.u rfl) rfl rfl hqn108 ?_
          refine LH.take 17 (by kernel_rfl) rfl (by kernel_rfl) (by kernel_rfl) (by kernel_rfl) (fun Hq hq => Y.assign rfl rfl) (Wd.u rfl) rfl rfl hqn108 ?_
          refine LH.done (by kernel_rfl) ?_
          have hqe := hqn108
          refine hK37 _ _ ?_
          refine CW.seq (fun K38 hK38 hE38 => ?_)
          refine CW.region_any (fun Hq => Nw H108 Hq) [] rfl ?_
          have hqs := Nw.refl H108
          refine LH.take 0 (by kernel_rfl) rfl (by kernel_rfl) (by kernel_rfl) (by kernel_rfl) (fun Hq hq => Y.move rfl rfl) (Wd.u rfl) rfl rfl hqs ?_
          refine LH.take 1 (by kernel_rfl) rfl (by kernel_rfl) (by kernel_rfl) (by kernel_rfl) (fun Hq hq => Y.subi rfl rfl rfl (by omega)) (Wd.u rfl) rfl rfl hqs ?_
          refine LH.take 2 (by kernel_rfl) rfl (by kernel_rfl) (by kernel_rfl) (by kernel_rfl) (fun Hq hq => Y.arrAddr (va6.pt.nw hq) (i - 2) rfl Tryd.runUnderlying107 Tryd.sizeOf106 rfl rfl (by omega) (by first | omega | (simp; omega) | (simp; done))) (Wd.u rfl) rfl rfl hqs ?_
          refine LH.take 3 (by kernel_rfl) rfl (by kernel_rfl) (by kernel_rfl) (by kernel_rfl) (fun Hq hq => Y.load1 ((va6.pt.at (i - 2) (map_get w (i - 2) (by omega))).nw hq) rfl Tryd.isAgg106 rfl) (Wd.u rfl) rfl rfl hqs ?_
          refine LH.take 5 (by kernel_rfl) rfl (by kernel_rfl) (by kernel_rfl) (by kernel_rfl) (fun Hq hq => Y.move rfl rfl) (Wd.u rfl) rfl rfl hqs ?_
          refine LH.take 6 (by kernel_rfl) rfl (by kernel_rfl) (by kernel_rfl) (by kernel_rfl) (fun Hq hq => Y.subi rfl rfl rfl (by omega)) (Wd.u rfl) rfl rfl hqs ?_
          refine LH.take 7 (by kernel_rfl) rfl (by kernel_rfl) (by kernel_rfl) (by kernel_rfl) (fun Hq hq => Y.arrAddr (va6.pt.nw hq) (i - 2) rfl Tryd.runUnderlying107 Tryd.sizeOf106 rfl rfl (by omega) (by first | omega | (simp; omega) | (simp; done))) (Wd.u rfl) rfl rfl hqs ?_
          refine LH.take 8 (by kernel_rfl) rfl (by kernel_rfl) (by kernel_rfl) (by kernel_rfl) (fun Hq hq => Y.load1 ((va6.pt.at (i - 2) (map_get w (i - 2) (by omega))).nw hq) rfl Tryd.isAgg106 rfl) (Wd.u rfl) rfl rfl hqs ?_
          refine LH.take 11 (by kernel_rfl) rfl (by kernel_rfl) (by kernel_rfl) (by kernel_rfl) (fun Hq hq => Y.move rfl rfl) (Wd.u rfl) rfl rfl hqs ?_
          refine LH.take 12 (by kernel_rfl) rfl (by kernel_rfl) (by kernel_rfl) (by kernel_rfl) (fun Hq hq => Y.subi rfl rfl rfl (by omega)) (Wd.u rfl) rfl rfl hqs ?_
          refine LH.take 13 (by kernel_rfl) rfl (by kernel_rfl) (by kernel_rfl) (by kernel_rfl) (fun Hq hq => Y.arrAddr (va6.pt.nw hq) (i - 2) rfl Tryd.runUnderlying107 Tryd.sizeOf106 rfl rfl (by omega) (by first | omega | (simp; omega) | (simp; done))) (Wd.u rfl) rfl rfl hqs ?_
          refine LH.take 14 (by kernel_rfl) rfl (by kernel_rfl) (by kernel_rfl) (by kernel_rfl) (fun Hq hq => Y.load1 ((va6.pt.at (i - 2) (map_get w (i - 2) (by omega))).nw hq) rfl Tryd.isAgg106 rfl) (Wd.u rfl) rfl rfl hqs ?_
          refine LH.take 15 (by kernel_rfl) rfl (by kernel_rfl) (by kernel_rfl) (by kernel_rfl) (fun Hq hq => Y.shr_u32 (10) rfl rfl rfl (by first | rfl | omega) (by omega)) (Wd.u rfl) rfl rfl hqs ?_
          refine LH.one (i := 4) (by kernel_rfl) ?_
          -- call selvage/selvageref1.turn
          refine LO.call rfl rfl Tryd.call58 rfl (Wd.u rfl) rfl rfl (rturn_nw _ 17 w0 _ (by omega) (by omega)) (fun v120 H120 r120 => ?_)
          obtain ⟨rfl, hs120⟩ := r120
          replace hr := hr.nw hs120
          replace hm0 := hm0.trans hs120 (fun b hb0 hb1 => hb1) (fun b hb0 hb1 => hb1.elim)
          replace va2 := va2.nw hs120
          replace va3 := va3.nw hs120
          replace ow27 := ow27.nw hs120
          replace ow5 := ow5.nw hs120
          replace va4 := va4.nw hs120
          try replace hlm2 := hlm2.trans hs120 (fun b hb0 hb1 => hb1) (fun b hb0 hb1 => hb1.elim)
          replace va6 := va6.nw hs120
          try replace hlm4 := hlm4.trans hs120 (fun b hb0 hb1 => hb1) (fun b hb0 hb1 => hb1.elim)
          have hz21 := hs120.size
          have hq120 := hqs.tr hs120
          refine ⟨.inr hq120, LH.narrow (SH2 := fun Hq => Nw H120 Hq) (fun Hq hq => hq120.tr hq) ?_⟩
          have hqn120 := Nw.refl H120
          refine LH.one (i := 9) (by kernel_rfl) ?_
          -- call selvage/selvageref1.turn
          refine LO.call rfl rfl Tryd.call58 rfl (Wd.u rfl) rfl rfl (rturn_nw _ 19 w0 _ (by omega) (by omega)) (fun v125 H125 r125 => ?_)
          obtain ⟨rfl, hs125⟩ := r125
          replace hr := hr.nw hs125
          replace hm0 := hm0.trans hs125 (fun b hb0 hb1 => hb1) (fun b hb0 hb1 => hb1.elim)
          replace va2 := va2.nw hs125
          replace va3 := va3.nw hs125
          replace ow27 := ow27.nw hs125
          replace ow5 := ow5.nw hs125
          replace va4 := va4.nw hs125
          try replace hlm2 := hlm2.trans hs125 (fun b hb0 hb1 => hb1) (fun b hb0 hb1 => hb1.elim)
          replace va6 := va6.nw hs125
          try replace hlm4 := hlm4.trans hs125 (fun b hb0 hb1 => hb1) (fun b hb0 hb1 => hb1.elim)
          have hz22 := hs125.size
          have hq125 := hqn120.tr hs125
          refine ⟨.inr hq125, LH.narrow (SH2 := fun Hq => Nw H125 Hq) (fun Hq hq => hq125.tr hq) ?_⟩
          have hqn125 := Nw.refl H125
          refine LH.take 10 (by kernel_rfl) rfl (by kernel_rfl) (by kernel_rfl) (by kernel_rfl) (fun Hq hq => Y.xor_u32 rfl rfl rfl) (Wd.u rfl) rfl rfl hqn125 ?_
          refine LH.take 16 (by kernel_rfl) rfl (by kernel_rfl) (by kernel_rfl) (by kernel_rfl) (fun Hq hq => Y.xor_u32 rfl rfl rfl) (Wd.u rfl) rfl rfl hqn125 ?_
          refine LH.take 17 (by kernel_rfl) rfl (by kernel_rfl) (by kernel_rfl) (by kernel_rfl) (fun Hq hq => Y.assign rfl rfl) (Wd.u rfl) rfl rfl hqn125 ?_
          refine LH.done (by kernel_rfl) ?_
          have hqe := hqn125
          refine hK38 _ _ ?_
          refine CW.region_tail 15 rfl (by kernel_rfl) (fun T20 hT20 => ?_)
          refine LR.v (Y.move rfl rfl) (Wd.u rfl) rfl rfl ?_
          refine LR.v (Y.move rfl rfl) (Wd.u rfl) rfl rfl ?_
          refine LR.v (Y.subi rfl rfl rfl (by omega)) (Wd.u rfl) rfl rfl ?_
          refine LR.v (Y.arrAddr va6.pt (i - 16) rfl Tryd.runUnderlying107 Tryd.sizeOf106 rfl rfl (by omega) (by first | omega | (simp; omega) | (simp; done))) (Wd.u rfl) rfl rfl ?_
          refine LR.v (Y.load1 (va6.pt.at (i - 16) (map_get w (i - 16) (by omega))) rfl Tryd.isAgg106 rfl) (Wd.u rfl) rfl rfl ?_
          refine LR.v (Y.move rfl rfl) (Wd.u rfl) rfl rfl ?_
          refine LR.v (Y.add_u32 rfl rfl rfl) (Wd.u rfl) rfl rfl ?_
          refine LR.v (Y.move rfl rfl) (Wd.u rfl) rfl rfl ?_
          refine LR.v (Y.subi rfl rfl rfl (by omega)) (Wd.u rfl) rfl rfl ?_
          refine LR.v (Y.arrAddr va6.pt (i - 7) rfl Tryd.runUnderlying107 Tryd.sizeOf106 rfl rfl (by omega) (by first | omega | (simp; omega) | (simp; done))) (Wd.u rfl) rfl rfl ?_
          refine LR.v (Y.load1 (va6.pt.at (i - 7) (map_get w (i - 7) (by omega))) rfl Tryd.isAgg106 rfl) (Wd.u rfl) rfl rfl ?_
          refine LR.v (Y.add_u32 rfl rfl rfl) (Wd.u rfl) rfl rfl ?_
          refine LR.v (Y.move rfl rfl) (Wd.u rfl) rfl rfl ?_
          refine LR.v (Y.add_u32 rfl rfl rfl) (Wd.u rfl) rfl rfl ?_
          refine LR.v (Y.arrAddr va6.pt (i) rfl Tryd.runUnderlying107 Tryd.sizeOf106 rfl rfl (by omega) (by first | omega | (simp; omega) | (simp; done))) (Wd.u rfl) rfl rfl ?_
          refine LR.nil (hT20 _ ?_)
          refine LR.s (S.var1 va6 (0 + (i)) (_) rfl rfl rfl (rfl) Tryd.sizeOf106 (by simp; omega) (map_set w i _)) (Wd.u rfl) rfl (fun H20_15 r20_15 => ?_)
          obtain ⟨va6, hs20_15⟩ := r20_15
          replace hr := hr.up hs20_15 (fun b hb0 hb1 hb2 => by omega)
          replace hm0 := hm0.trans hs20_15 (fun b hb0 hb1 => hb1) (fun b hb0 hb1 => by omega)
          replace va2 := va2.up hs20_15 (by omega)
          replace va3 := va3.up hs20_15 (by omega)
          replace ow27 := ow27.up hs20_15 (fun b hb0 hb1 hb2 => by omega)
          replace ow5 := ow5.up hs20_15 (fun b hb0 hb1 hb2 => by omega)
          replace va4 := va4.up hs20_15 (by omega)
          try replace hlm2 := hlm2.trans hs20_15 (fun b hb0 hb1 => hb1) (fun b hb0 hb1 => by omega)
          try replace hlm4 := hlm4.trans hs20_15 (fun b hb0 hb1 => hb1) (fun b hb0 hb1 => by omega)
          have hz23 := hs20_15.size
          refine LR.nil ?_
          refine hK36 _ _ ?_
          refine hK35 _ _ ?_
          refine CW.region ?_
          refine LR.v (Y.move rfl rfl) (Wd.u rfl) rfl rfl ?_
          refine LR.v (Y.addi rfl rfl rfl (by omega)) (Wd.u rfl) rfl rfl ?_
          refine LR.v (Y.assign rfl rfl) (Wd.u rfl) rfl rfl ?_
          refine LR.nil ?_
          refine QN.sub (hN32 (i + 1, w.set i (nxt w i)) _ ?_ ?_) ⟨rfl, rfl, rfl, rfl, rfl, (iv (by omega)), (iv (by omega)), trivial⟩
          · exact ⟨(by omega), (by omega), by simp [hwl], by rw [take_set_succ _ _ _ (by omega), hwt, show i + 1 - 16 = (i - 16) + 1 by omega, schedL, ← hwt, grow_take w i hi0 (by omega)], va6, hlm4⟩
          · first | omega | (simp only; omega) | (simp; omega)
        ·
          obtain rfl : i = 64 := by omega
          rw [List.take_of_length_le (by omega)] at hwt
          refine CW.exit (hE33 (.exit 6) nofun _ _ (hE32 (.exit 6) nofun _ _ (hX31 _ _ ?_)))
          refine hK29 _ _ ?_
          refine CW.seq (fun K39 hK39 hE39 => ?_)
          refine CW.region ?_
          refine LR.v (Y.loadN va4.pt rfl Tryd.isAgg108 Tryd.sizeOf108 (rfl) rfl) (Wd.u rfl) rfl rfl ?_
          refine LR.z (Z.allocv rfl Tryd.zeroValue108) (Wd.u rfl) rfl rfl (fun v12 H12 r12 => ?_)
          obtain ⟨rfl, va12, hs12, ob12, hH12⟩ := r12
          have hzs12 : H12.size = HL4.size + 1 := by rw [hH12]; simp
          replace hr := hr.nw hs12
          replace hm0 := hm0.trans hs12 (fun b hb0 hb1 => hb1) (fun b hb0 hb1 => hb1.elim)
          replace va2 := va2.nw hs12
          replace va3 := va3.nw hs12
          replace ow27 := ow27.nw hs12
          replace ow5 := ow5.nw hs12
          replace va4 := va4.nw hs12
          try replace hlm2 := hlm2.trans hs12 (fun b hb0 hb1 => hb1) (fun b hb0 hb1 => hb1.elim)
          replace va6 := va6.nw hs12
          have hz24 := hs12.size
          have hlt_va12 := va12.lt
          replace va12 : Var 108 H12 HL4.size (List.replicate 8 (V32 0)) := va12
          refine LR.s (S.var va12 (st.list.map V32) (st.list.map V32) rfl rfl rfl rfl (by intro u hu; obtain ⟨x, _, rfl⟩ := List.mem_map.1 hu; rfl) Tryd.sizeOf108 (rfl) (Nat.le_of_ble_eq_true rfl) (by rfl)) (Wd.u rfl) rfl (fun H21_2 r21_2 => ?_)
          obtain ⟨va12, hs21_2⟩ := r21_2
          replace hr := hr.up hs21_2 (fun b hb0 hb1 hb2 => by omega)
          replace hm0 := hm0.trans hs21_2 (fun b hb0 hb1 => hb1) (fun b hb0 hb1 => by omega)
          replace va2 := va2.up hs21_2 (by omega)
          replace va3 := va3.up hs21_2 (by omega)
          replace ow27 := ow27.up hs21_2 (fun b hb0 hb1 hb2 => by omega)
          replace ow5 := ow5.up hs21_2 (fun b hb0 hb1 hb2 => by omega)
          replace va4 := va4.up hs21_2 (by omega)
          try replace hlm2 := hlm2.trans hs21_2 (fun b hb0 hb1 => hb1) (fun b hb0 hb1 => by omega)
          replace va6 := va6.up hs21_2 (by omega)
          have hz25 := hs21_2.size
          refine LR.nil ?_
          refine hK39 _ _ ?_
          refine CW.seq (fun K40 hK40 hE40 => ?_)
          refine CW.seq (fun K41 hK41 hE41 => ?_)
          refine CW.region ?_
          refine LR.v (Y.assign rfl rfl) (Wd.u rfl) rfl rfl ?_
          refine LR.nil ?_
          refine hK41 _ _ ?_
          refine CW.block (fun K42 hK42 hX42 hE42 => ?_)
          refine CW.loop (fun (s_ : (Nat) × (S8)) => match s_ with | (i, q) => [(2, .pointer (some ⟨H0.size, 0, none⟩)), (3, .pointer (some ⟨H2.size, 0, none⟩)), (4, .pointer (some ⟨H1_2.size, 0, none⟩)), (5, v41), (6, .pointer (some ⟨H41.size, 0, none⟩)), (7, .int .i64 ((64 * j : Nat) : Int)), (12, .pointer (some ⟨HL4.size, 0, none⟩)), (13, .int .i64 i)])
            (fun (s_ : (Nat) × (S8)) (H : Heap) => match s_ with | (i, q) => (i ≤ 64) ∧ (q = rndN st w i) ∧ (Var 108 H HL4.size (q.list.map V32)) ∧ Mo (fun c => c = HL4.size) H21_2 H)
            (fun (s_ : (Nat) × (S8)) => match s_ with | (i, q) => 64 - i) (0, st) ⟨rfl, rfl, rfl, rfl, rfl, rfl, rfl, rfl, trivial⟩ ?_ ?_
          ·
            exact ⟨(by omega), rfl, va12, Mo.refl _ _⟩
          rintro ⟨i, q⟩ HL5 hI5 K43 hN43 hE43
          obtain ⟨hi, hq, va12, hlm5⟩ := hI5
          replace hr := hr.up hlm5 (fun b hb0 hb1 hb2 => by omega)
          replace hm0 := hm0.trans hlm5 (fun b hb0 hb1 => hb1) (fun b hb0 hb1 => by omega)
          replace va2 := va2.up hlm5 (by omega)
          replace va3 := va3.up hlm5 (by omega)
          replace ow27 := ow27.up hlm5 (fun b hb0 hb1 hb2 => by omega)
          replace ow5 := ow5.up hlm5 (fun b hb0 hb1 hb2 => by omega)
          replace va4 := va4.up hlm5 (by omega)
          try replace hlm2 := hlm2.trans hlm5 (fun b hb0 hb1 => hb1) (fun b hb0 hb1 => by omega)
          replace va6 := va6.up hlm5 (by omega)
          have hz26 := hlm5.size
          have hlt_va12 := va12.lt
          refine CW.seq (fun K44 hK44 hE44 => ?_)
          refine CW.seq (fun K45 hK45 hE45 => ?_)
          refine CW.region ?_
          refine LR.v (Y.move rfl rfl) (Wd.u rfl) rfl rfl ?_
          refine LR.v (Y.lss rfl rfl rfl) (Wd.u rfl) rfl rfl ?_
          refine LR.nil ?_
          refine hK45 _ _ ?_
          refine CW.condp rfl (fun c150 => ?_) (fun c150 => ?_)
          ·
            refine CW.skip ?_
            refine hK44 _ _ ?_
            refine CW.seq (fun K46 hK46 hE46 => ?_)
            refine CW.block (fun K47 hK47 hX47 hE47 => ?_)
            refine CW.seq (fun K48 hK48 hE48 => ?_)
            refine CW.region_any (fun Hq => Nw HL5 Hq) [] rfl ?_
            have hqs := Nw.refl HL5
            refine LH.take 0 (by kernel_rfl) rfl (by kernel_rfl) (by kernel_rfl) (by kernel_rfl) (fun Hq hq => Y.arrAddr (va12.pt.nw hq) (4) rfl Tryd.runUnderlying108 Tryd.sizeOf106 rfl rfl (by first | rfl | omega) (by first | omega | (simp; omega) | (simp; done))) (Wd.u rfl) rfl rfl hqs ?_
            refine LH.take 1 (by kernel_rfl) rfl (by kernel_rfl) (by kernel_rfl) (by kernel_rfl) (fun Hq hq => Y.load1 ((va12.pt.drop 4).nw hq) rfl Tryd.isAgg106 rfl) (Wd.u rfl) rfl rfl hqs ?_
            refine LH.take 3 (by kernel_rfl) rfl (by kernel_rfl) (by kernel_rfl) (by kernel_rfl) (fun Hq hq => Y.arrAddr (va12.pt.nw hq) (4) rfl Tryd.runUnderlying108 Tryd.sizeOf106 rfl rfl (by first | rfl | omega) (by first | omega | (simp; omega) | (simp; done))) (Wd.u rfl) rfl rfl hqs ?_
            refine LH.take 4 (by kernel_rfl) rfl (by kernel_rfl) (by kernel_rfl) (by kernel_rfl) (fun Hq hq => Y.load1 ((va12.pt.drop 4).nw hq) rfl Tryd.isAgg106 rfl) (Wd.u rfl) rfl rfl hqs ?_
            refine LH.take 7 (by kernel_rfl) rfl (by kernel_rfl) (by kernel_rfl) (by kernel_rfl) (fun Hq hq => Y.arrAddr (va12.pt.nw hq) (4) rfl Tryd.runUnderlying108 Tryd.sizeOf106 rfl rfl (by first | rfl | omega) (by first | omega | (simp; omega) | (simp; done))) (Wd.u rfl) rfl rfl hqs ?_
            refine LH.take 8 (by kernel_rfl) rfl (by kernel_rfl) (by kernel_rfl) (by kernel_rfl) (fun Hq hq => Y.load1 ((va12.pt.drop 4).nw hq) rfl Tryd.isAgg106 rfl) (Wd.u rfl) rfl rfl hqs ?_
            refine LH.one (i := 2) (by kernel_rfl) ?_
            -- call selvage/selvageref1.turn
            refine LO.call rfl rfl Tryd.call58 rfl (Wd.u rfl) rfl rfl (rturn_nw _ 6 w0 _ (by omega) (by omega)) (fun v155 H155 r155 => ?_)
            obtain ⟨rfl, hs155⟩ := r155
            replace hr := hr.nw hs155
            replace hm0 := hm0.trans hs155 (fun b hb0 hb1 => hb1) (fun b hb0 hb1 => hb1.elim)
            replace va2 := va2.nw hs155
            replace va3 := va3.nw hs155
            replace ow27 := ow27.nw hs155
            replace ow5 := ow5.nw hs155
            replace va4 := va4.nw hs155
            try replace hlm2 := hlm2.trans hs155 (fun b hb0 hb1 => hb1) (fun b hb0 hb1 => hb1.elim)
            replace va6 := va6.nw hs155
            replace va12 := va12.nw hs155
            try replace hlm5 := hlm5.trans hs155 (fun b hb0 hb1 => hb1) (fun b hb0 hb1 => hb1.elim)
            have hz27 := hs155.size
            have hq155 := hqs.tr hs155
            refine ⟨.inr hq155, LH.narrow (SH2 := fun Hq => Nw H155 Hq) (fun Hq hq => hq155.tr hq) ?_⟩
            have hqn155 := Nw.refl H155
            refine LH.one (i := 5) (by kernel_rfl) ?_
            -- call selvage/selvageref1.turn
            refine LO.call rfl rfl Tryd.call58 rfl (Wd.u rfl) rfl rfl (rturn_nw _ 11 w0 _ (by omega) (by omega)) (fun v158 H158 r158 => ?_)
            obtain ⟨rfl, hs158⟩ := r158
            replace hr := hr.nw hs158
            replace hm0 := hm0.trans hs158 (fun b hb0 hb1 => hb1) (fun b hb0 hb1 => hb1.elim)
            replace va2 := va2.nw hs158
            replace va3 := va3.nw hs158
            replace ow27 := ow27.nw hs158
            replace ow5 := ow5.nw hs158
            replace va4 := va4.nw hs158
            try replace hlm2 := hlm2.trans hs158 (fun b hb0 hb1 => hb1) (fun b hb0 hb1 => hb1.elim)
            replace va6 := va6.nw hs158
            replace va12 := va12.nw hs158
            try replace hlm5 := hlm5.trans hs158 (fun b hb0 hb1 => hb1) (fun b hb0 hb1 => hb1.elim)
            have hz28 := hs158.size
            have hq158 := hqn155.tr hs158
            refine ⟨.inr hq158, LH.narrow (SH2 := fun Hq => Nw H158 Hq) (fun Hq hq => hq158.tr hq) ?_⟩
            have hqn158 := Nw.refl H158
            refine LH.take 6 (by kernel_rfl) rfl (by kernel_rfl) (by kernel_rfl) (by kernel_rfl) (fun Hq hq => Y.xor_u32 rfl rfl rfl) (Wd.u rfl) rfl rfl hqn158 ?_
            refine LH.one (i := 9) (by kernel_rfl) ?_
            -- call selvage/selvageref1.turn
            refine LO.call rfl rfl Tryd.call58 rfl (Wd.u rfl) rfl rfl (rturn_nw _ 25 w0 _ (by omega) (by omega)) (fun v162 H162 r162 => ?_)
            obtain ⟨rfl, hs162⟩ := r162
            replace hr := hr.nw hs162
            replace hm0 := hm0.trans hs162 (fun b hb0 hb1 => hb1) (fun b hb0 hb1 => hb1.elim)
            replace va2 := va2.nw hs162
            replace va3 := va3.nw hs162
            replace ow27 := ow27.nw hs162
            replace ow5 := ow5.nw hs162
            replace va4 := va4.nw hs162
            try replace hlm2 := hlm2.trans hs162 (fun b hb0 hb1 => hb1) (fun b hb0 hb1 => hb1.elim)
            replace va6 := va6.nw hs162
            replace va12 := va12.nw hs162
            try replace hlm5 := hlm5.trans hs162 (fun b hb0 hb1 => hb1) (fun b hb0 hb1 => hb1.elim)
            have hz29 := hs162.size
            have hq162 := hqn158.tr hs162
            refine ⟨.inr hq162, LH.narrow (SH2 := fun Hq => Nw H162 Hq) (fun Hq hq => hq162.tr hq) ?_⟩
            have hqn162 := Nw.refl H162
            refine LH.take 10 (by kernel_rfl) rfl (by kernel_rfl) (by kernel_rfl) (by kernel_rfl) (fun Hq hq => Y.xor_u32 rfl rfl rfl) (Wd.u rfl) rfl rfl hqn162 ?_
            refine LH.take 11 (by kernel_rfl) rfl (by kernel_rfl) (by kernel_rfl) (by kernel_rfl) (fun Hq hq => Y.assign rfl rfl) (Wd.u rfl) rfl rfl hqn162 ?_
            refine LH.done (by kernel_rfl) ?_
            have hqe := hqn162
            refine hK48 _ _ ?_
            refine CW.seq (fun K49 hK49 hE49 => ?_)
            refine CW.region ?_
            refine LR.v (Y.arrAddr va12.pt (4) rfl Tryd.runUnderlying108 Tryd.sizeOf106 rfl rfl (by first | rfl | omega) (by first | omega | (simp; omega) | (simp; done))) (Wd.u rfl) rfl rfl ?_
            refine LR.v (Y.load1 (va12.pt.drop 4) rfl Tryd.isAgg106 rfl) (Wd.u rfl) rfl rfl ?_
            refine LR.v (Y.arrAddr va12.pt (5) rfl Tryd.runUnderlying108 Tryd.sizeOf106 rfl rfl (by first | rfl | omega) (by first | omega | (simp; omega) | (simp; done))) (Wd.u rfl) rfl rfl ?_
            refine LR.v (Y.load1 (va12.pt.drop 5) rfl Tryd.isAgg106 rfl) (Wd.u rfl) rfl rfl ?_
            refine LR.v (Y.and_u32 rfl rfl rfl) (Wd.u rfl) rfl rfl ?_
            refine LR.v (Y.arrAddr va12.pt (4) rfl Tryd.runUnderlying108 Tryd.sizeOf106 rfl rfl (by first | rfl | omega) (by first | omega | (simp; omega) | (simp; done))) (Wd.u rfl) rfl rfl ?_
            refine LR.v (Y.load1 (va12.pt.drop 4) rfl Tryd.isAgg106 rfl) (Wd.u rfl) rfl rfl ?_
            refine LR.v (Y.not_u32 rfl rfl) (Wd.u rfl) rfl rfl ?_
            refine LR.v (Y.arrAddr va12.pt (6) rfl Tryd.runUnderlying108 Tryd.sizeOf106 rfl rfl (by first | rfl | omega) (by first | omega | (simp; omega) | (simp; done))) (Wd.u rfl) rfl rfl ?_
            refine LR.v (Y.load1 (va12.pt.drop 6) rfl Tryd.isAgg106 rfl) (Wd.u rfl) rfl rfl ?_
            refine LR.v (Y.and_u32 rfl rfl rfl) (Wd.u rfl) rfl rfl ?_
            refine LR.v (Y.xor_u32 rfl rfl rfl) (Wd.u rfl) rfl rfl ?_
            refine LR.v (Y.assign rfl rfl) (Wd.u rfl) rfl rfl ?_
            refine LR.nil ?_
            refine hK49 _ _ ?_
            refine CW.seq (fun K50 hK50 hE50 => ?_)
            refine CW.region_draw rfl (by kernel_rfl) ?_
            refine LR.v (Y.arrAddr va12.pt (7) rfl Tryd.runUnderlying108 Tryd.sizeOf106 rfl rfl (by first | rfl | omega) (by first | omega | (simp; omega) | (simp; done))) (Wd.u rfl) rfl rfl ?_
            refine LR.v (Y.load1 (va12.pt.drop 7) rfl Tryd.isAgg106 rfl) (Wd.u rfl) rfl rfl ?_
            refine LR.v (Y.move rfl rfl) (Wd.u rfl) rfl rfl ?_
            refine LR.v (Y.add_u32 rfl rfl rfl) (Wd.u rfl) rfl rfl ?_
            refine LR.v (Y.move rfl rfl) (Wd.u rfl) rfl rfl ?_
            refine LR.v (Y.add_u32 rfl rfl rfl) (Wd.u rfl) rfl rfl ?_
            refine LR.v (Y.move rfl rfl) (Wd.u rfl) rfl rfl ?_
            refine LR.v (Y.arrAddr va3.pt (i) rfl Tryd.runUnderlying107 Tryd.sizeOf106 rfl rfl (by first | rfl | omega) (by first | omega | (simp; omega) | (simp; done))) (Wd.u rfl) rfl rfl ?_
            refine LR.v (Y.load1 (va3.pt.at (i) (map_get KS i (by simp [KS]; omega))) rfl Tryd.isAgg106 rfl) (Wd.u rfl) rfl rfl ?_
            refine LR.v (Y.add_u32 rfl rfl rfl) (Wd.u rfl) rfl rfl ?_
            refine LR.v (Y.move rfl rfl) (Wd.u rfl) rfl rfl ?_
            refine LR.v (Y.arrAddr va6.pt (i) rfl Tryd.runUnderlying107 Tryd.sizeOf106 rfl rfl (by omega) (by first | omega | (simp; omega) | (simp; done))) (Wd.u rfl) rfl rfl ?_
            refine LR.v (Y.load1 (va6.pt.at (i) (map_get w (i) (by omega))) rfl Tryd.isAgg106 rfl) (Wd.u rfl) rfl rfl ?_
            refine LR.v (Y.add_u32 rfl rfl rfl) (Wd.u rfl) rfl rfl ?_
            refine LR.v (Y.assign rfl rfl) (Wd.u rfl) rfl rfl ?_
            refine LR.nil ?_
            refine hK50 _ _ ?_
            refine CW.seq (fun K51 hK51 hE51 => ?_)
            refine CW.region_any (fun Hq => Nw H162 Hq) [] rfl ?_
            have hqs := Nw.refl H162
            refine LH.take 0 (by kernel_rfl) rfl (by kernel_rfl) (by kernel_rfl) (by kernel_rfl) (fun Hq hq => Y.arrAddr (va12.pt.nw hq) (0) rfl Tryd.runUnderlying108 Tryd.sizeOf106 rfl rfl (by first | rfl | omega) (by first | omega | (simp; omega) | (simp; done))) (Wd.u rfl) rfl rfl hqs ?_
            refine LH.take 1 (by kernel_rfl) rfl (by kernel_rfl) (by kernel_rfl) (by kernel_rfl) (fun Hq hq => Y.load1 (va12.pt.nw hq) rfl Tryd.isAgg106 rfl) (Wd.u rfl) rfl rfl hqs ?_
            refine LH.take 3 (by kernel_rfl) rfl (by kernel_rfl) (by kernel_rfl) (by kernel_rfl) (fun Hq hq => Y.arrAddr (va12.pt.nw hq) (0) rfl Tryd.runUnderlying108 Tryd.sizeOf106 rfl rfl (by first | rfl | omega) (by first | omega | (simp; omega) | (simp; done))) (Wd.u rfl) rfl rfl hqs ?_
            refine LH.take 4 (by kernel_rfl) rfl (by kernel_rfl) (by kernel_rfl) (by kernel_rfl) (fun Hq hq => Y.load1 (va12.pt.nw hq) rfl Tryd.isAgg106 rfl) (Wd.u rfl) rfl rfl hqs ?_
            refine LH.take 7 (by kernel_rfl) rfl (by kernel_rfl) (by kernel_rfl) (by kernel_rfl) (fun Hq hq => Y.arrAddr (va12.pt.nw hq) (0) rfl Tryd.runUnderlying108 Tryd.sizeOf106 rfl rfl (by first | rfl | omega) (by first | omega | (simp; omega) | (simp; done))) (Wd.u rfl) rfl rfl hqs ?_
            refine LH.take 8 (by kernel_rfl) rfl (by kernel_rfl) (by kernel_rfl) (by kernel_rfl) (fun Hq hq => Y.load1 (va12.pt.nw hq) rfl Tryd.isAgg106 rfl) (Wd.u rfl) rfl rfl hqs ?_
            refine LH.one (i := 2) (by kernel_rfl) ?_
            -- call selvage/selvageref1.turn
            refine LO.call rfl rfl Tryd.call58 rfl (Wd.u rfl) rfl rfl (rturn_nw _ 2 w0 _ (by omega) (by omega)) (fun v192 H192 r192 => ?_)
            obtain ⟨rfl, hs192⟩ := r192
            replace hr := hr.nw hs192
            replace hm0 := hm0.trans hs192 (fun b hb0 hb1 => hb1) (fun b hb0 hb1 => hb1.elim)
            replace va2 := va2.nw hs192
            replace va3 := va3.nw hs192
            replace ow27 := ow27.nw hs192
            replace ow5 := ow5.nw hs192
            replace va4 := va4.nw hs192
            try replace hlm2 := hlm2.trans hs192 (fun b hb0 hb1 => hb1) (fun b hb0 hb1 => hb1.elim)
            replace va6 := va6.nw hs192
            replace va12 := va12.nw hs192
            try replace hlm5 := hlm5.trans hs192 (fun b hb0 hb1 => hb1) (fun b hb0 hb1 => hb1.elim)
            have hz30 := hs192.size
            have hq192 := hqs.tr hs192
            refine ⟨.inr hq192, LH.narrow (SH2 := fun Hq => Nw H192 Hq) (fun Hq hq => hq192.tr hq) ?_⟩
            have hqn192 := Nw.refl H192
            refine LH.one (i := 5) (by kernel_rfl) ?_
            -- call selvage/selvageref1.turn
            refine LO.call rfl rfl Tryd.call58 rfl (Wd.u rfl) rfl rfl (rturn_nw _ 13 w0 _ (by omega) (by omega)) (fun v195 H195 r195 => ?_)
            obtain ⟨rfl, hs195⟩ := r195
            replace hr := hr.nw hs195
            replace hm0 := hm0.trans hs195 (fun b hb0 hb1 => hb1) (fun b hb0 hb1 => hb1.elim)
            replace va2 := va2.nw hs195
            replace va3 := va3.nw hs195
            replace ow27 := ow27.nw hs195
            replace ow5 := ow5.nw hs195
            replace va4 := va4.nw hs195
            try replace hlm2 := hlm2.trans hs195 (fun b hb0 hb1 => hb1) (fun b hb0 hb1 => hb1.elim)
            replace va6 := va6.nw hs195
            replace va12 := va12.nw hs195
            try replace hlm5 := hlm5.trans hs195 (fun b hb0 hb1 => hb1) (fun b hb0 hb1 => hb1.elim)
            have hz31 := hs195.size
            have hq195 := hqn192.tr hs195
            refine ⟨.inr hq195, LH.narrow (SH2 := fun Hq => Nw H195 Hq) (fun Hq hq => hq195.tr hq) ?_⟩
            have hqn195 := Nw.refl H195
            refine LH.take 6 (by kernel_rfl) rfl (by kernel_rfl) (by kernel_rfl) (by kernel_rfl) (fun Hq hq => Y.xor_u32 rfl rfl rfl) (Wd.u rfl) rfl rfl hqn195 ?_
            refine LH.one (i := 9) (by kernel_rfl) ?_
            -- call selvage/selvageref1.turn
            refine LO.call rfl rfl Tryd.call58 rfl (Wd.u rfl) rfl rfl (rturn_nw _ 22 w0 _ (by omega) (by omega)) (fun v199 H199 r199 => ?_)
            obtain ⟨rfl, hs199⟩ := r199
            replace hr := hr.nw hs199
            replace hm0 := hm0.trans hs199 (fun b hb0 hb1 => hb1) (fun b hb0 hb1 => hb1.elim)
            replace va2 := va2.nw hs199
            replace va3 := va3.nw hs199
            replace ow27 := ow27.nw hs199
            replace ow5 := ow5.nw hs199
            replace va4 := va4.nw hs199
            try replace hlm2 := hlm2.trans hs199 (fun b hb0 hb1 => hb1) (fun b hb0 hb1 => hb1.elim)
            replace va6 := va6.nw hs199
            replace va12 := va12.nw hs199
            try replace hlm5 := hlm5.trans hs199 (fun b hb0 hb1 => hb1) (fun b hb0 hb1 => hb1.elim)
            have hz32 := hs199.size
            have hq199 := hqn195.tr hs199
            refine ⟨.inr hq199, LH.narrow (SH2 := fun Hq => Nw H199 Hq) (fun Hq hq => hq199.tr hq) ?_⟩
            have hqn199 := Nw.refl H199
            refine LH.take 10 (by kernel_rfl) rfl (by kernel_rfl) (by kernel_rfl) (by kernel_rfl) (fun Hq hq => Y.xor_u32 rfl rfl rfl) (Wd.u rfl) rfl rfl hqn199 ?_
            refine LH.take 11 (by kernel_rfl) rfl (by kernel_rfl) (by kernel_rfl) (by kernel_rfl) (fun Hq hq => Y.assign rfl rfl) (Wd.u rfl) rfl rfl hqn199 ?_
            refine LH.done (by kernel_rfl) ?_
            have hqe := hqn199
            refine hK51 _ _ ?_
            refine CW.seq (fun K52 hK52 hE52 => ?_)
            refine CW.region ?_
            refine LR.v (Y.arrAddr va12.pt (0) rfl Tryd.runUnderlying108 Tryd.sizeOf106 rfl rfl (by first | rfl | omega) (by first | omega | (simp; omega) | (simp; done))) (Wd.u rfl) rfl rfl ?_
            refine LR.v (Y.load1 va12.pt rfl Tryd.isAgg106 rfl) (Wd.u rfl) rfl rfl ?_
            refine LR.v (Y.arrAddr va12.pt (1) rfl Tryd.runUnderlying108 Tryd.sizeOf106 rfl rfl (by first | rfl | omega) (by first | omega | (simp; omega) | (simp; done))) (Wd.u rfl) rfl rfl ?_
            refine LR.v (Y.load1 (va12.pt.drop 1) rfl Tryd.isAgg106 rfl) (Wd.u rfl) rfl rfl ?_
            refine LR.v (Y.and_u32 rfl rfl rfl) (Wd.u rfl) rfl rfl ?_
            refine LR.v (Y.arrAddr va12.pt (0) rfl Tryd.runUnderlying108 Tryd.sizeOf106 rfl rfl (by first | rfl | omega) (by first | omega | (simp; omega) | (simp; done))) (Wd.u rfl) rfl rfl ?_
            refine LR.v (Y.load1 va12.pt rfl Tryd.isAgg106 rfl) (Wd.u rfl) rfl rfl ?_
            refine LR.v (Y.arrAddr va12.pt (2) rfl Tryd.runUnderlying108 Tryd.sizeOf106 rfl rfl (by first | rfl | omega) (by first | omega | (simp; omega) | (simp; done))) (Wd.u rfl) rfl rfl ?_
            refine LR.v (Y.load1 (va12.pt.drop 2) rfl Tryd.isAgg106 rfl) (Wd.u rfl) rfl rfl ?_
            refine LR.v (Y.and_u32 rfl rfl rfl) (Wd.u rfl) rfl rfl ?_
            refine LR.v (Y.xor_u32 rfl rfl rfl) (Wd.u rfl) rfl rfl ?_
            refine LR.v (Y.arrAddr va12.pt (1) rfl Tryd.runUnderlying108 Tryd.sizeOf106 rfl rfl (by first | rfl | omega) (by first | omega | (simp; omega) | (simp; done))) (Wd.u rfl) rfl rfl ?_
            refine LR.v (Y.load1 (va12.pt.drop 1) rfl Tryd.isAgg106 rfl) (Wd.u rfl) rfl rfl ?_
            refine LR.v (Y.arrAddr va12.pt (2) rfl Tryd.runUnderlying108 Tryd.sizeOf106 rfl rfl (by first | rfl | omega) (by first | omega | (simp; omega) | (simp; done))) (Wd.u rfl) rfl rfl ?_
            refine LR.v (Y.load1 (va12.pt.drop 2) rfl Tryd.isAgg106 rfl) (Wd.u rfl) rfl rfl ?_
            refine LR.v (Y.and_u32 rfl rfl rfl) (Wd.u rfl) rfl rfl ?_
            refine LR.v (Y.xor_u32 rfl rfl rfl) (Wd.u rfl) rfl rfl ?_
            refine LR.v (Y.assign rfl rfl) (Wd.u rfl) rfl rfl ?_
            refine LR.nil ?_
            refine hK52 _ _ ?_
            refine CW.region ?_
            refine LR.v (Y.arrAddr va12.pt (6) rfl Tryd.runUnderlying108 Tryd.sizeOf106 rfl rfl (by first | rfl | omega) (by first | omega | (simp; omega) | (simp; done))) (Wd.u rfl) rfl rfl ?_
            refine LR.v (Y.load1 (va12.pt.drop 6) rfl Tryd.isAgg106 rfl) (Wd.u rfl) rfl rfl ?_
            refine LR.v (Y.arrAddr va12.pt (5) rfl Tryd.runUnderlying108 Tryd.sizeOf106 rfl rfl (by first | rfl | omega) (by first | omega | (simp; omega) | (simp; done))) (Wd.u rfl) rfl rfl ?_
            refine LR.v (Y.load1 (va12.pt.drop 5) rfl Tryd.isAgg106 rfl) (Wd.u rfl) rfl rfl ?_
            refine LR.v (Y.arrAddr va12.pt (4) rfl Tryd.runUnderlying108 Tryd.sizeOf106 rfl rfl (by first | rfl | omega) (by first | omega | (simp; omega) | (simp; done))) (Wd.u rfl) rfl rfl ?_
            refine LR.v (Y.load1 (va12.pt.drop 4) rfl Tryd.isAgg106 rfl) (Wd.u rfl) rfl rfl ?_
            refine LR.v (Y.arrAddr va12.pt (3) rfl Tryd.runUnderlying108 Tryd.sizeOf106 rfl rfl (by first | rfl | omega) (by first | omega | (simp; omega) | (simp; done))) (Wd.u rfl) rfl rfl ?_
            refine LR.v (Y.load1 (va12.pt.drop 3) rfl Tryd.isAgg106 rfl) (Wd.u rfl) rfl rfl ?_
            refine LR.v (Y.move rfl rfl) (Wd.u rfl) rfl rfl ?_
            refine LR.v (Y.add_u32 rfl rfl rfl) (Wd.u rfl) rfl rfl ?_
            refine LR.v (Y.arrAddr va12.pt (2) rfl Tryd.runUnderlying108 Tryd.sizeOf106 rfl rfl (by first | rfl | omega) (by first | omega | (simp; omega) | (simp; done))) (Wd.u rfl) rfl rfl ?_
            refine LR.v (Y.load1 (va12.pt.drop 2) rfl Tryd.isAgg106 rfl) (Wd.u rfl) rfl rfl ?_
            refine LR.v (Y.arrAddr va12.pt (1) rfl Tryd.runUnderlying108 Tryd.sizeOf106 rfl rfl (by first | rfl | omega) (by first | omega | (simp; omega) | (simp; done))) (Wd.u rfl) rfl rfl ?_
            refine LR.v (Y.load1 (va12.pt.drop 1) rfl Tryd.isAgg106 rfl) (Wd.u rfl) rfl rfl ?_
            refine LR.v (Y.arrAddr va12.pt (0) rfl Tryd.runUnderlying108 Tryd.sizeOf106 rfl rfl (by first | rfl | omega) (by first | omega | (simp; omega) | (simp; done))) (Wd.u rfl) rfl rfl ?_
            refine LR.v (Y.load1 va12.pt rfl Tryd.isAgg106 rfl) (Wd.u rfl) rfl rfl ?_
            refine LR.v (Y.move rfl rfl) (Wd.u rfl) rfl rfl ?_
            refine LR.v (Y.move rfl rfl) (Wd.u rfl) rfl rfl ?_
            refine LR.v (Y.add_u32 rfl rfl rfl) (Wd.u rfl) rfl rfl ?_
            refine LR.v (Y.move rfl rfl) (Wd.u rfl) rfl rfl ?_
            refine LR.v (Y.cast (v2 := .int .u32 (one q (KS.getD i 0) (w.getD i 0) + two q).toNat) (Y.add_u32 rfl rfl rfl) (congrArg (fun z : UInt32 => Value.int .u32 z.toNat) (UInt32.add_assoc (one q (KS.getD i 0) (w.getD i 0)) _ _))) (Wd.u rfl) rfl rfl ?_
            refine LR.v (Y.arrAddr va12.pt (7) rfl Tryd.runUnderlying108 Tryd.sizeOf106 rfl rfl (by first | rfl | omega) (by first | omega | (simp; omega) | (simp; done))) (Wd.u rfl) rfl rfl ?_
            refine LR.s (S.var1 va12 7 (_) rfl rfl rfl (rfl) Tryd.sizeOf106 (by simp) (rfl)) (Wd.u rfl) rfl (fun H30_22 r30_22 => ?_)
            obtain ⟨va12, hs30_22⟩ := r30_22
            replace hr := hr.up hs30_22 (fun b hb0 hb1 hb2 => by omega)
            replace hm0 := hm0.trans hs30_22 (fun b hb0 hb1 => hb1) (fun b hb0 hb1 => by omega)
            replace va2 := va2.up hs30_22 (by omega)
            replace va3 := va3.up hs30_22 (by omega)
            replace ow27 := ow27.up hs30_22 (fun b hb0 hb1 hb2 => by omega)
            replace ow5 := ow5.up hs30_22 (fun b hb0 hb1 hb2 => by omega)
            replace va4 := va4.up hs30_22 (by omega)
            try replace hlm2 := hlm2.trans hs30_22 (fun b hb0 hb1 => hb1) (fun b hb0 hb1 => by omega)
            replace va6 := va6.up hs30_22 (by omega)
            try replace hlm5 := hlm5.trans hs30_22 (fun b hb0 hb1 => hb1) (fun b hb0 hb1 => by omega)
            have hz33 := hs30_22.size
            refine LR.v (Y.arrAddr va12.pt (6) rfl Tryd.runUnderlying108 Tryd.sizeOf106 rfl rfl (by first | rfl | omega) (by first | omega | (simp; omega) | (simp; done))) (Wd.u rfl) rfl rfl ?_
            refine LR.s (S.var1 va12 6 (_) rfl rfl rfl (rfl) Tryd.sizeOf106 (by simp) (rfl)) (Wd.u rfl) rfl (fun H30_24 r30_24 => ?_)
            obtain ⟨va12, hs30_24⟩ := r30_24
            replace hr := hr.up hs30_24 (fun b hb0 hb1 hb2 => by omega)
            replace hm0 := hm0.trans hs30_24 (fun b hb0 hb1 => hb1) (fun b hb0 hb1 => by omega)
            replace va2 := va2.up hs30_24 (by omega)
            replace va3 := va3.up hs30_24 (by omega)
            replace ow27 := ow27.up hs30_24 (fun b hb0 hb1 hb2 => by omega)
            replace ow5 := ow5.up hs30_24 (fun b hb0 hb1 hb2 => by omega)
            replace va4 := va4.up hs30_24 (by omega)
            try replace hlm2 := hlm2.trans hs30_24 (fun b hb0 hb1 => hb1) (fun b hb0 hb1 => by omega)
            replace va6 := va6.up hs30_24 (by omega)
            try replace hlm5 := hlm5.trans hs30_24 (fun b hb0 hb1 => hb1) (fun b hb0 hb1 => by omega)
            have hz34 := hs30_24.size
            refine LR.v (Y.arrAddr va12.pt (5) rfl Tryd.runUnderlying108 Tryd.sizeOf106 rfl rfl (by first | rfl | omega) (by first | omega | (simp; omega) | (simp; done))) (Wd.u rfl) rfl rfl ?_
            refine LR.s (S.var1 va12 5 (_) rfl rfl rfl (rfl) Tryd.sizeOf106 (by simp) (rfl)) (Wd.u rfl) rfl (fun H30_26 r30_26 => ?_)
            obtain ⟨va12, hs30_26⟩ := r30_26
            replace hr := hr.up hs30_26 (fun b hb0 hb1 hb2 => by omega)
            replace hm0 := hm0.trans hs30_26 (fun b hb0 hb1 => hb1) (fun b hb0 hb1 => by omega)
            replace va2 := va2.up hs30_26 (by omega)
            replace va3 := va3.up hs30_26 (by omega)
            replace ow27 := ow27.up hs30_26 (fun b hb0 hb1 hb2 => by omega)
            replace ow5 := ow5.up hs30_26 (fun b hb0 hb1 hb2 => by omega)
            replace va4 := va4.up hs30_26 (by omega)
            try replace hlm2 := hlm2.trans hs30_26 (fun b hb0 hb1 => hb1) (fun b hb0 hb1 => by omega)
            replace va6 := va6.up hs30_26 (by omega)
            try replace hlm5 := hlm5.trans hs30_26 (fun b hb0 hb1 => hb1) (fun b hb0 hb1 => by omega)
            have hz35 := hs30_26.size
            refine LR.v (Y.arrAddr va12.pt (4) rfl Tryd.runUnderlying108 Tryd.sizeOf106 rfl rfl (by first | rfl | omega) (by first | omega | (simp; omega) | (simp; done))) (Wd.u rfl) rfl rfl ?_
            refine LR.s (S.var1 va12 4 (_) rfl rfl rfl (rfl) Tryd.sizeOf106 (by simp) (rfl)) (Wd.u rfl) rfl (fun H30_28 r30_28 => ?_)
            obtain ⟨va12, hs30_28⟩ := r30_28
            replace hr := hr.up hs30_28 (fun b hb0 hb1 hb2 => by omega)
            replace hm0 := hm0.trans hs30_28 (fun b hb0 hb1 => hb1) (fun b hb0 hb1 => by omega)
            replace va2 := va2.up hs30_28 (by omega)
            replace va3 := va3.up hs30_28 (by omega)
            replace ow27 := ow27.up hs30_28 (fun b hb0 hb1 hb2 => by omega)
            replace ow5 := ow5.up hs30_28 (fun b hb0 hb1 hb2 => by omega)
            replace va4 := va4.up hs30_28 (by omega)
            try replace hlm2 := hlm2.trans hs30_28 (fun b hb0 hb1 => hb1) (fun b hb0 hb1 => by omega)
            replace va6 := va6.up hs30_28 (by omega)
            try replace hlm5 := hlm5.trans hs30_28 (fun b hb0 hb1 => hb1) (fun b hb0 hb1 => by omega)
            have hz36 := hs30_28.size
            refine LR.v (Y.arrAddr va12.pt (3) rfl Tryd.runUnderlying108 Tryd.sizeOf106 rfl rfl (by first | rfl | omega) (by first | omega | (simp; omega) | (simp; done))) (Wd.u rfl) rfl rfl ?_
            refine LR.s (S.var1 va12 3 (_) rfl rfl rfl (rfl) Tryd.sizeOf106 (by simp) (rfl)) (Wd.u rfl) rfl (fun H30_30 r30_30 => ?_)
            obtain ⟨va12, hs30_30⟩ := r30_30
            replace hr := hr.up hs30_30 (fun b hb0 hb1 hb2 => by omega)
            replace hm0 := hm0.trans hs30_30 (fun b hb0 hb1 => hb1) (fun b hb0 hb1 => by omega)
            replace va2 := va2.up hs30_30 (by omega)
            replace va3 := va3.up hs30_30 (by omega)
            replace ow27 := ow27.up hs30_30 (fun b hb0 hb1 hb2 => by omega)
            replace ow5 := ow5.up hs30_30 (fun b hb0 hb1 hb2 => by omega)
            replace va4 := va4.up hs30_30 (by omega)
            try replace hlm2 := hlm2.trans hs30_30 (fun b hb0 hb1 => hb1) (fun b hb0 hb1 => by omega)
            replace va6 := va6.up hs30_30 (by omega)
            try replace hlm5 := hlm5.trans hs30_30 (fun b hb0 hb1 => hb1) (fun b hb0 hb1 => by omega)
            have hz37 := hs30_30.size
            refine LR.v (Y.arrAddr va12.pt (2) rfl Tryd.runUnderlying108 Tryd.sizeOf106 rfl rfl (by first | rfl | omega) (by first | omega | (simp; omega) | (simp; done))) (Wd.u rfl) rfl rfl ?_
            refine LR.s (S.var1 va12 2 (_) rfl rfl rfl (rfl) Tryd.sizeOf106 (by simp) (rfl)) (Wd.u rfl) rfl (fun H30_32 r30_32 => ?_)
            obtain ⟨va12, hs30_32⟩ := r30_32
            replace hr := hr.up hs30_32 (fun b hb0 hb1 hb2 => by omega)
            replace hm0 := hm0.trans hs30_32 (fun b hb0 hb1 => hb1) (fun b hb0 hb1 => by omega)
            replace va2 := va2.up hs30_32 (by omega)
            replace va3 := va3.up hs30_32 (by omega)
            replace ow27 := ow27.up hs30_32 (fun b hb0 hb1 hb2 => by omega)
            replace ow5 := ow5.up hs30_32 (fun b hb0 hb1 hb2 => by omega)
            replace va4 := va4.up hs30_32 (by omega)
            try replace hlm2 := hlm2.trans hs30_32 (fun b hb0 hb1 => hb1) (fun b hb0 hb1 => by omega)
            replace va6 := va6.up hs30_32 (by omega)
            try replace hlm5 := hlm5.trans hs30_32 (fun b hb0 hb1 => hb1) (fun b hb0 hb1 => by omega)
            have hz38 := hs30_32.size
            refine LR.v (Y.arrAddr va12.pt (1) rfl Tryd.runUnderlying108 Tryd.sizeOf106 rfl rfl (by first | rfl | omega) (by first | omega | (simp; omega) | (simp; done))) (Wd.u rfl) rfl rfl ?_
            refine LR.s (S.var1 va12 1 (_) rfl rfl rfl (rfl) Tryd.sizeOf106 (by simp) (rfl)) (Wd.u rfl) rfl (fun H30_34 r30_34 => ?_)
            obtain ⟨va12, hs30_34⟩ := r30_34
            replace hr := hr.up hs30_34 (fun b hb0 hb1 hb2 => by omega)
            replace hm0 := hm0.trans hs30_34 (fun b hb0 hb1 => hb1) (fun b hb0 hb1 => by omega)
            replace va2 := va2.up hs30_34 (by omega)
            replace va3 := va3.up hs30_34 (by omega)
            replace ow27 := ow27.up hs30_34 (fun b hb0 hb1 hb2 => by omega)
            replace ow5 := ow5.up hs30_34 (fun b hb0 hb1 hb2 => by omega)
            replace va4 := va4.up hs30_34 (by omega)
            try replace hlm2 := hlm2.trans hs30_34 (fun b hb0 hb1 => hb1) (fun b hb0 hb1 => by omega)
            replace va6 := va6.up hs30_34 (by omega)
            try replace hlm5 := hlm5.trans hs30_34 (fun b hb0 hb1 => hb1) (fun b hb0 hb1 => by omega)
            have hz39 := hs30_34.size
            refine LR.v (Y.arrAddr va12.pt (0) rfl Tryd.runUnderlying108 Tryd.sizeOf106 rfl rfl (by first | rfl | omega) (by first | omega | (simp; omega) | (simp; done))) (Wd.u rfl) rfl rfl ?_
            refine LR.s (S.var1 va12 0 (_) rfl rfl rfl (rfl) Tryd.sizeOf106 (by simp) (rfl)) (Wd.u rfl) rfl (fun H30_36 r30_36 => ?_)
            obtain ⟨va12, hs30_36⟩ := r30_36
            replace hr := hr.up hs30_36 (fun b hb0 hb1 hb2 => by omega)
            replace hm0 := hm0.trans hs30_36 (fun b hb0 hb1 => hb1) (fun b hb0 hb1 => by omega)
            replace va2 := va2.up hs30_36 (by omega)
            replace va3 := va3.up hs30_36 (by omega)
            replace ow27 := ow27.up hs30_36 (fun b hb0 hb1 hb2 => by omega)
            replace ow5 := ow5.up hs30_36 (fun b hb0 hb1 hb2 => by omega)
            replace va4 := va4.up hs30_36 (by omega)
            try replace hlm2 := hlm2.trans hs30_36 (fun b hb0 hb1 => hb1) (fun b hb0 hb1 => by omega)
            replace va6 := va6.up hs30_36 (by omega)
            try replace hlm5 := hlm5.trans hs30_36 (fun b hb0 hb1 => hb1) (fun b hb0 hb1 => by omega)
            have hz40 := hs30_36.size
            refine LR.nil ?_
            refine hK47 _ _ ?_
            refine hK46 _ _ ?_
            refine CW.region ?_
            refine LR.v (Y.move rfl rfl) (Wd.u rfl) rfl rfl ?_
            refine LR.v (Y.addi rfl rfl rfl (by omega)) (Wd.u rfl) rfl rfl ?_
            refine LR.v (Y.assign rfl rfl) (Wd.u rfl) rfl rfl ?_
            refine LR.nil ?_
            refine QN.sub (hN43 (i + 1, rnd q (KS.getD i 0) (w.getD i 0)) _ ?_ ?_) ⟨rfl, rfl, rfl, rfl, rfl, (iv (by omega)), rfl, (iv (by omega)), trivial⟩
            · exact ⟨(by omega), by rw [hq]; rfl, va12, hlm5⟩
            · first | omega | (simp only; omega) | (simp; omega)
          ·
            obtain rfl : i = 64 := by omega
            have hcm : add8 st q = compress st (((m ++ padOf m.length).drop (64 * j)).take 64) := by rw [hq, hwt]; rfl
            refine CW.exit (hE44 (.exit 8) nofun _ _ (hE43 (.exit 8) nofun _ _ (hX42 _ _ ?_)))
            refine hK40 _ _ ?_
            refine CW.seq (fun K53 hK53 hE53 => ?_)
            refine CW.region ?_
            refine LR.v (Y.assign rfl rfl) (Wd.u rfl) rfl rfl ?_
            refine LR.nil ?_
            refine hK53 _ _ ?_
            refine CW.block (fun K54 hK54 hX54 hE54 => ?_)
            refine CW.loop (fun (i : (Nat)) => [(2, .pointer (some ⟨H0.size, 0, none⟩)), (3, .pointer (some ⟨H2.size, 0, none⟩)), (4, .pointer (some ⟨H1_2.size, 0, none⟩)), (5, v41), (6, .pointer (some ⟨H41.size, 0, none⟩)), (7, .int .i64 ((64 * j : Nat) : Int)), (12, .pointer (some ⟨HL4.size, 0, none⟩)), (19, .int .i64 i)])
              (fun (i : (Nat)) (H : Heap) => (i ≤ 8) ∧ (Var 108 H H1_2.size ((addL st.list q.list i).map V32)) ∧ Mo (fun c => c = H1_2.size) HL5 H)
              (fun (i : (Nat)) => 8 - i) 0 ⟨rfl, rfl, rfl, rfl, rfl, rfl, rfl, rfl, trivial⟩ ?_ ?_
            ·
              exact ⟨(by omega), va4, Mo.refl _ _⟩
            intro i HL6 hI6 K55 hN55 hE55
            obtain ⟨hi, va4, hlm6⟩ := hI6
            replace hr := hr.up hlm6 (fun b hb0 hb1 hb2 => by omega)
            replace hm0 := hm0.trans hlm6 (fun b hb0 hb1 => hb1) (fun b hb0 hb1 => by omega)
            replace va2 := va2.up hlm6 (by omega)
            replace va3 := va3.up hlm6 (by omega)
            replace ow27 := ow27.up hlm6 (fun b hb0 hb1 hb2 => by omega)
            replace ow5 := ow5.up hlm6 (fun b hb0 hb1 hb2 => by omega)
            try replace hlm2 := hlm2.trans hlm6 (fun b hb0 hb1 => hb1) (fun b hb0 hb1 => by omega)
            replace va6 := va6.up hlm6 (by omega)
            replace va12 := va12.up hlm6 (by omega)
            have hz41 := hlm6.size
            have hlt_va4 := va4.lt
            have hal := addL_len st.list q.list i rfl rfl hi
            refine CW.seq (fun K56 hK56 hE56 => ?_)
            refine CW.seq (fun K57 hK57 hE57 => ?_)
            refine CW.region ?_
            refine LR.v (Y.move rfl rfl) (Wd.u rfl) rfl rfl ?_
            refine LR.v (Y.lss rfl rfl rfl) (Wd.u rfl) rfl rfl ?_
            refine LR.nil ?_
            refine hK57 _ _ ?_
            refine CW.condp rfl (fun c248 => ?_) (fun c248 => ?_)
            ·
              refine CW.skip ?_
              refine hK56 _ _ ?_
              refine CW.seq (fun K58 hK58 hE58 => ?_)
              refine CW.block (fun K59 hK59 hX59 hE59 => ?_)
              refine CW.region_tail 9 rfl (by kernel_rfl) (fun T34 hT34 => ?_)
              refine LR.v (Y.move rfl rfl) (Wd.u rfl) rfl rfl ?_
              refine LR.v (Y.move rfl rfl) (Wd.u rfl) rfl rfl ?_
              refine LR.v (Y.arrAddr va4.pt (i) rfl Tryd.runUnderlying108 Tryd.sizeOf106 rfl rfl (by first | rfl | omega) (by first | omega | (simp; omega) | (simp; done))) (Wd.u rfl) rfl rfl ?_
              refine LR.v (Y.cast (v2 := .int .u32 (st.list.getD i 0).toNat) (Y.load1 (va4.pt.at (i) (map_get _ i (by omega))) rfl Tryd.isAgg106 rfl) (by rw [addL_get st.list q.list i rfl rfl (by omega)])) (Wd.u rfl) rfl rfl ?_
              refine LR.v (Y.move rfl rfl) (Wd.u rfl) rfl rfl ?_
              refine LR.v (Y.arrAddr va12.pt (i) rfl Tryd.runUnderlying108 Tryd.sizeOf106 rfl rfl (by first | rfl | omega) (by first | omega | (simp; omega) | (simp; done))) (Wd.u rfl) rfl rfl ?_
              refine LR.v (Y.load1 (va12.pt.at (i) (map_get q.list i (by simp; omega))) rfl Tryd.isAgg106 rfl) (Wd.u rfl) rfl rfl ?_
              refine LR.v (Y.add_u32 rfl rfl rfl) (Wd.u rfl) rfl rfl ?_
              refine LR.v (Y.arrAddr va4.pt (i) rfl Tryd.runUnderlying108 Tryd.sizeOf106 rfl rfl (by first | rfl | omega) (by first | omega | (simp; omega) | (simp; done))) (Wd.u rfl) rfl rfl ?_
              refine LR.nil (hT34 _ ?_)
              refine LR.s (S.var1 va4 (0 + (i)) (_) rfl rfl rfl (rfl) Tryd.sizeOf106 (by simp; omega) (map_set _ i _)) (Wd.u rfl) rfl (fun H34_9 r34_9 => ?_)
              obtain ⟨va4, hs34_9⟩ := r34_9
              replace hr := hr.up hs34_9 (fun b hb0 hb1 hb2 => by omega)
              replace hm0 := hm0.trans hs34_9 (fun b hb0 hb1 => hb1) (fun b hb0 hb1 => by omega)
              replace va2 := va2.up hs34_9 (by omega)
              replace va3 := va3.up hs34_9 (by omega)
              replace ow27 := ow27.up hs34_9 (fun b hb0 hb1 hb2 => by omega)
              replace ow5 := ow5.up hs34_9 (fun b hb0 hb1 hb2 => by omega)
              try replace hlm2 := hlm2.trans hs34_9 (fun b hb0 hb1 => hb1) (fun b hb0 hb1 => by omega)
              replace va6 := va6.up hs34_9 (by omega)
              replace va12 := va12.up hs34_9 (by omega)
              try replace hlm6 := hlm6.trans hs34_9 (fun b hb0 hb1 => hb1) (fun b hb0 hb1 => by omega)
              have hz42 := hs34_9.size
              refine LR.nil ?_
              refine hK59 _ _ ?_
              refine hK58 _ _ ?_
              refine CW.region ?_
              refine LR.v (Y.move rfl rfl) (Wd.u rfl) rfl rfl ?_
              refine LR.v (Y.addi rfl rfl rfl (by omega)) (Wd.u rfl) rfl rfl ?_
              refine LR.v (Y.assign rfl rfl) (Wd.u rfl) rfl rfl ?_
              refine LR.nil ?_
              refine QN.sub (hN55 (i + 1) _ ?_ ?_) ⟨rfl, rfl, rfl, rfl, rfl, (iv (by omega)), rfl, (iv (by omega)), trivial⟩
              · exact ⟨(by omega), by rw [← addL_succ st.list q.list i rfl rfl (by omega)]; exact va4, hlm6⟩
              · first | omega | (simp only; omega) | (simp; omega)
            ·
              obtain rfl : i = 8 := by omega
              replace va4 : Var 108 HL6 H1_2.size ((add8 st q).list.map V32) := va4
              refine CW.exit (hE56 (.exit 10) nofun _ _ (hE55 (.exit 10) nofun _ _ (hX54 _ _ ?_)))
              refine hK20 _ _ ?_
              refine hK19 _ _ ?_
              refine CW.region ?_
              refine LR.v (Y.move rfl rfl) (Wd.u rfl) rfl rfl ?_
              refine LR.v (Y.addi rfl rfl rfl (by omega)) (Wd.u rfl) rfl rfl ?_
              refine LR.v (Y.assign rfl rfl) (Wd.u rfl) rfl rfl ?_
              refine LR.nil ?_
              refine QN.sub (hN16 (j + 1, compress st (((m ++ padOf m.length).drop (64 * j)).take 64), w) _ ?_ ?_) ⟨rfl, rfl, rfl, rfl, rfl, (iv (by omega)), trivial⟩
              · exact ⟨(by omega), run_take _ _ _ hst (by omega), (by omega), hcm ▸ va4, va6, hlm2⟩
              · first | omega | (simp only; omega) | (simp; omega)
    ·
      have hjj : 64 * j = (m ++ padOf m.length).length := by omega
      rw [hjj, List.take_of_length_le (Nat.le_refl _)] at hst
      have hso : outL st.list = sumOf m := by rw [sumOf, hst]
      refine CW.exit (hE17 (.exit 2) nofun _ _ (hE16 (.exit 2) nofun _ _ (hX15 _ _ ?_)))
      refine hK13 _ _ ?_
      refine CW.seq (fun K60 hK60 hE60 => ?_)
      refine CW.region ?_
      refine LR.z (Z.allocv rfl Tryd.zeroValue80) (Wd.u rfl) rfl rfl (fun v20 H20 r20 => ?_)
      obtain ⟨rfl, va20, hs20, ob20, hH20⟩ := r20
      have hzs20 : H20.size = HL2.size + 1 := by rw [hH20]; simp
      replace hr := hr.nw hs20
      replace hm0 := hm0.trans hs20 (fun b hb0 hb1 => hb1) (fun b hb0 hb1 => hb1.elim)
      replace va2 := va2.nw hs20
      replace va3 := va3.nw hs20
      replace ow27 := ow27.nw hs20
      replace ow5 := ow5.nw hs20
      replace va4 := va4.nw hs20
      replace va6 := va6.nw hs20
      have hz43 := hs20.size
      have hlt_va20 := va20.lt
      replace va20 : Var 80 H20 HL2.size ((List.replicate 32 (0 : UInt8)).map V8) := va20
      refine LR.nil ?_
      refine hK60 _ _ ?_
      refine CW.seq (fun K61 hK61 hE61 => ?_)
      refine CW.seq (fun K62 hK62 hE62 => ?_)
      refine CW.region ?_
      refine LR.v (Y.assign rfl rfl) (Wd.u rfl) rfl rfl ?_
      refine LR.nil ?_
      refine hK62 _ _ ?_
      refine CW.block (fun K63 hK63 hX63 hE63 => ?_)
      refine CW.loop (fun (s_ : (Nat) × (List UInt8)) => match s_ with | (i, o) => [(2, .pointer (some ⟨H0.size, 0, none⟩)), (4, .pointer (some ⟨H1_2.size, 0, none⟩)), (20, .pointer (some ⟨HL2.size, 0, none⟩)), (21, .int .i64 i)])
        (fun (s_ : (Nat) × (List UInt8)) (H : Heap) => match s_ with | (i, o) => (i ≤ 32) ∧ (o.length = 32) ∧ (o.take i = (outL st.list).take i) ∧ (Var 80 H HL2.size (o.map V8)) ∧ Mo (fun c => c = HL2.size) H20 H)
        (fun (s_ : (Nat) × (List UInt8)) => match s_ with | (i, o) => 32 - i) (0, List.replicate 32 0) ⟨rfl, rfl, rfl, rfl, trivial⟩ ?_ ?_
      ·
        exact ⟨(by omega), by simp, by simp, va20, Mo.refl _ _⟩
      rintro ⟨i, o⟩ HL7 hI7 K64 hN64 hE64
      obtain ⟨hi, hol, hot, va20, hlm7⟩ := hI7
      replace hr := hr.up hlm7 (fun b hb0 hb1 hb2 => by omega)
      replace hm0 := hm0.trans hlm7 (fun b hb0 hb1 => hb1) (fun b hb0 hb1 => by omega)
      replace va2 := va2.up hlm7 (by omega)
      replace va3 := va3.up hlm7 (by omega)
      replace ow27 := ow27.up hlm7 (fun b hb0 hb1 hb2 => by omega)
      replace ow5 := ow5.up hlm7 (fun b hb0 hb1 hb2 => by omega)
      replace va4 := va4.up hlm7 (by omega)
      replace va6 := va6.up hlm7 (by omega)
      have hz44 := hlm7.size
      have hlt_va20 := va20.lt
      refine CW.seq (fun K65 hK65 hE65 => ?_)
      refine CW.seq (fun K66 hK66 hE66 => ?_)
      refine CW.region ?_
      refine LR.v (Y.move rfl rfl) (Wd.u rfl) rfl rfl ?_
      refine LR.v (Y.lss rfl rfl rfl) (Wd.u rfl) rfl rfl ?_
      refine LR.nil ?_
      refine hK66 _ _ ?_
      refine CW.condp rfl (fun c261 => ?_) (fun c261 => ?_)
      ·
        refine CW.skip ?_
        refine hK65 _ _ ?_
        refine CW.seq (fun K67 hK67 hE67 => ?_)
        refine CW.block (fun K68 hK68 hX68 hE68 => ?_)
        refine CW.region ?_
        refine LR.v (Y.move rfl rfl) (Wd.u rfl) rfl rfl ?_
        refine LR.v (Y.move rfl rfl) (Wd.u rfl) rfl rfl ?_
        refine LR.v (Y.quoi rfl rfl rfl (by omega)) (Wd.u rfl) rfl rfl ?_
        refine LR.v (Y.arrAddr va4.pt (i / 4) rfl Tryd.runUnderlying108 Tryd.sizeOf106 rfl rfl (by omega) (by first | omega | (simp; omega) | (simp; done))) (Wd.u rfl) rfl rfl ?_
        refine LR.v (Y.load1 (va4.pt.at (i / 4) (map_get st.list (i / 4) (by simp; omega))) rfl Tryd.isAgg106 rfl) (Wd.u rfl) rfl rfl ?_
        refine LR.v (Y.move rfl rfl) (Wd.u rfl) rfl rfl ?_
        refine LR.v (Y.remi rfl rfl rfl (by omega)) (Wd.u rfl) rfl rfl ?_
        refine LR.v (Y.muli rfl rfl rfl (by omega)) (Wd.u rfl) rfl rfl ?_
        refine LR.v (Y.subi rfl rfl rfl (by omega)) (Wd.u rfl) rfl rfl ?_
        refine LR.v (Y.shr_u32 (24 - 8 * (i % 4)) rfl rfl rfl (by omega) (by omega)) (Wd.u rfl) rfl rfl ?_
        refine LR.v (Y.conv_u8 rfl Tryd.runUnderlying106 Tryd.runUnderlying5 rfl) (Wd.u rfl) rfl rfl ?_
        refine LR.v (Y.arrAddr va20.pt (i) rfl Tryd.runUnderlying80 Tryd.sizeOf5 rfl rfl (by first | rfl | omega) (by first | omega | (simp; omega) | (simp; done))) (Wd.u rfl) rfl rfl ?_
        refine LR.s (S.var1 va20 (0 + (i)) (_) rfl rfl rfl (rfl) Tryd.sizeOf5 (by simp; omega) (map_set8 o i _)) (Wd.u rfl) rfl (fun H39_12 r39_12 => ?_)
        obtain ⟨va20, hs39_12⟩ := r39_12
        replace hr := hr.up hs39_12 (fun b hb0 hb1 hb2 => by omega)
        replace hm0 := hm0.trans hs39_12 (fun b hb0 hb1 => hb1) (fun b hb0 hb1 => by omega)
        replace va2 := va2.up hs39_12 (by omega)
        replace va3 := va3.up hs39_12 (by omega)
        replace ow27 := ow27.up hs39_12 (fun b hb0 hb1 hb2 => by omega)
        replace ow5 := ow5.up hs39_12 (fun b hb0 hb1 hb2 => by omega)
        replace va4 := va4.up hs39_12 (by omega)
        replace va6 := va6.up hs39_12 (by omega)
        try replace hlm7 := hlm7.trans hs39_12 (fun b hb0 hb1 => hb1) (fun b hb0 hb1 => by omega)
        have hz45 := hs39_12.size
        refine LR.nil ?_
        refine hK68 _ _ ?_
        refine hK67 _ _ ?_
        refine CW.region ?_
        refine LR.v (Y.move rfl rfl) (Wd.u rfl) rfl rfl ?_
        refine LR.v (Y.addi rfl rfl rfl (by omega)) (Wd.u rfl) rfl rfl ?_
        refine LR.v (Y.assign rfl rfl) (Wd.u rfl) rfl rfl ?_
        refine LR.nil ?_
        refine QN.sub (hN64 (i + 1, o.set i (UInt8.ofNat (shrw_u32 (st.list.getD (i / 4) 0) (24 - 8 * (i % 4))).toNat)) _ ?_ ?_) ⟨rfl, rfl, rfl, (iv (by omega)), trivial⟩
        · exact ⟨(by omega), by simp [hol], take8_succ _ _ _ _ hot (by omega) (outL_get _ _ (by omega)), va20, hlm7⟩
        · first | omega | (simp only; omega) | (simp; omega)
      ·
        obtain rfl : i = 32 := by omega
        rw [List.take_of_length_le (by omega), List.take_of_length_le (by rw [outL_len]; omega), hso] at hot
        subst hot
        refine CW.exit (hE65 (.exit 12) nofun _ _ (hE64 (.exit 12) nofun _ _ (hX63 _ _ ?_)))
        refine hK61 _ _ ?_
        refine CW.seq (fun K69 hK69 hE69 => ?_)
        refine CW.region ?_
        refine LR.v (Y.loadN va20.pt rfl Tryd.isAgg80 Tryd.sizeOf80 (rfl) rfl) (Wd.u rfl) rfl rfl ?_
        refine LR.s (S.var va2 ((sumOf m).map V8) ((sumOf m).map V8) rfl rfl rfl rfl (by intro u hu; obtain ⟨x, _, rfl⟩ := List.mem_map.1 hu; rfl) Tryd.sizeOf80 (rfl) (Nat.le_of_ble_eq_true rfl) (by simp [splice, sumOf_len])) (Wd.u rfl) rfl (fun H40_1 r40_1 => ?_)
        obtain ⟨va2, hs40_1⟩ := r40_1
        replace hr := hr.up hs40_1 (fun b hb0 hb1 hb2 => by omega)
        replace hm0 := hm0.trans hs40_1 (fun b hb0 hb1 => hb1) (fun b hb0 hb1 => by omega)
        replace va3 := va3.up hs40_1 (by omega)
        replace ow27 := ow27.up hs40_1 (fun b hb0 hb1 hb2 => by omega)
        replace ow5 := ow5.up hs40_1 (fun b hb0 hb1 hb2 => by omega)
        replace va4 := va4.up hs40_1 (by omega)
        replace va6 := va6.up hs40_1 (by omega)
        replace va20 := va20.up hs40_1 (by omega)
        have hz46 := hs40_1.size
        refine LR.nil ?_
        refine hK69 _ _ ?_
        refine CW.ret (hret .ret (.inr rfl) _ _ _ (resC rfl rfl va2.pt Tryd.isAgg80 Tryd.sizeOf80 (by first | rfl | simp)) ?_)
        exact ⟨rfl, hm0⟩

end Go.Proofs.YtdliddjkacbggaaDoor.SumF
/-
  The program's sum of rows of bytes.
-/
namespace Go.Proofs.YtdliddjkacbggaaDoor.SumG
open Go.Proofs.YtdliddjkacbggaaDoor.E Go.RowKit Go.Proofs.YtdliddjkacbggaaDoor.SumA Go.Proofs.YtdliddjkacbggaaDoor.SumB Go.Proofs.YtdliddjkacbggaaDoor.SumC Go.Proofs.YtdliddjkacbggaaDoor.SumD Go.Proofs.YtdliddjkacbggaaDoor.SumE Go.Proofs.YtdliddjkacbggaaDoor.SumF
set_option maxRecDepth 20000
set_option linter.unusedVariables false
set_option linter.unusedSimpArgs false
set_option linter.unusedSectionVars false
set_option maxRecDepth 100000 in
theorem inf22 : Inf Tryd.prog 22 23 1 24 := ⟨Tryd.underlying22, _, _, rfl, rfl, rfl, rfl, rfl⟩
set_option maxRecDepth 100000 in
theorem inf23 : Inf Tryd.prog 23 5 1 1 := ⟨Tryd.underlying23, _, _, rfl, rfl, rfl, rfl, rfl⟩

theorem zvHash : ∀ w, (zeroValue 127).run Tryd.prog w = .ok (.agg (hc (List.replicate 8 0) (List.replicate 64 0) 0 0).toArray) w := fun w => by kernel_rfl
theorem splice_all {cs vs : List Value} (h : cs.length = vs.length) : splice cs 0 vs = vs := by simp [splice, ← h]
theorem hc_one (s : List UInt32) (wt : List UInt8) (n : Nat) (al : UInt64) : ∀ u ∈ hc s wt n al, u.oneCell' = true := by
  intro u hu
  simp only [hc, List.mem_append, List.mem_map, List.mem_cons, List.not_mem_nil, or_false] at hu
  rcases hu with (⟨x, _, rfl⟩ | ⟨x, _, rfl⟩) | rfl | rfl <;> rfl
theorem run_mod_aux : ∀ (n : Nat) (s : S8) (b : List UInt8), b.length ≤ n → (run s b).2.length = b.length % 64 := by
  intro n
  induction n with
  | zero => intro s b h; rw [run_lt s b (by omega)]; simp only; omega
  | succ n ih =>
    intro s b h
    by_cases hb : b.length < 64
    · rw [run_lt s b hb]; simp only; omega
    · rw [run_ge s b (by omega), ih _ _ (by simp; omega)]; simp; omega
theorem run_mod (s : S8) (b : List UInt8) : (run s b).2.length = b.length % 64 := run_mod_aux _ s b (Nat.le_refl _)
theorem pad_set (z : Nat) : (List.replicate (1 + z) (0 : UInt8)).set 0 0x80 = 0x80 :: List.replicate z 0 := by rw [Nat.add_comm, List.replicate_succ, List.set_cons_zero]
theorem outL_at (s : List UInt32) (i k : Nat) (hi : i < 8) (hk : k < 4) : (outL s)[4 * i + k]? = some (UInt8.ofNat (shrw_u32 (s.getD i 0) (24 - 8 * k)).toNat) := by
  rw [outL_get s _ (by omega), show (4 * i + k) / 4 = i by omega, show (4 * i + k) % 4 = k by omega]

set_option maxHeartbeats 4000000 in
theorem psum_ct (hb : Nat) (m : List UInt8) (w0 : World) (H0 : Heap)
    (hS : HS H0 hb m (UInt64.ofNat m.length)) (hml : m.length ≤ 1099511627776) :
    Ct Tryd.prog w0 57 #[.pointer (some ⟨hb, 0, none⟩)] H0 (fun r H2 => r = .agg ((sumOf m).map V8).toArray ∧ Mo (fun c => False) H0 H2) := by
  refine Ct.enter (args := [.pointer (some ⟨hb, 0, none⟩)]) Tryd.func57 rfl rfl rfl ?_
  intro Q0 hret
  obtain ⟨wt, hwt, hv, hbuf⟩ := hS.ex
  have hn64 := run_rest IV m
  have hnm := run_mod IV m
  obtain ⟨n, hn⟩ : ∃ n, (run IV m).2.length = n := ⟨_, rfl⟩
  have hbuf0 := hbuf
  rw [hn] at hv hbuf hn64 hnm
  have hlt_hv := hv.lt
  have hlt_hS := hS.lt
  have hm0 : Mo (fun c => False) H0 H0 := Mo.refl _ _
  refine CW.seq (fun K1 hK1 hE1 => ?_)
  refine CW.region ?_
  refine LR.z (Z.allocv rfl Tryd.zeroValue80) (Wd.u rfl) rfl rfl (fun v2 H2 r2 => ?_)
  obtain ⟨rfl, va2, hs2, ob2, hH2⟩ := r2
  have hzs2 : H2.size = H0.size + 1 := by rw [hH2]; simp
  replace hv := hv.nw hs2
  replace hS := hS.nw hs2
  replace hm0 := hm0.trans hs2 (fun b hb0 hb1 => hb1) (fun b hb0 hb1 => hb1.elim)
  have hz1 := hs2.size
  have hlt_va2 := va2.lt
  replace va2 : Var 80 H2 H0.size ((List.replicate 32 (0 : UInt8)).map V8) := va2
  refine LR.nil ?_
  refine hK1 _ _ ?_
  refine CW.seq (fun K2 hK2 hE2 => ?_)
  refine CW.region ?_
  refine LR.v (Y.move rfl rfl) (Wd.u rfl) rfl rfl ?_
  refine LR.v (Y.nilCheck rfl rfl) (Wd.u rfl) rfl rfl ?_
  refine LR.v (Y.loadN hv.pt rfl Tryd.isAgg127 Tryd.sizeOf127 (hc_len rfl hwt) rfl) (Wd.u rfl) rfl rfl ?_
  refine LR.z (Z.allocv rfl zvHash) (Wd.u rfl) rfl rfl (fun v3 H3 r3 => ?_)
  obtain ⟨rfl, va3, hs3, ob3, hH3⟩ := r3
  have hzs3 : H3.size = H2.size + 1 := by rw [hH3]; simp
  replace hv := hv.nw hs3
  replace hS := hS.nw hs3
  replace hm0 := hm0.trans hs3 (fun b hb0 hb1 => hb1) (fun b hb0 hb1 => hb1.elim)
  replace va2 := va2.nw hs3
  have hz2 := hs3.size
  have hlt_va3 := va3.lt
  replace va3 : Var 127 H3 H2.size (hc (List.replicate 8 0) (List.replicate 64 0) 0 0) := va3
  refine LR.s (S.var va3 (hc (run IV m).1.list wt n (UInt64.ofNat m.length)) (hc (run IV m).1.list wt n (UInt64.ofNat m.length)) rfl rfl rfl rfl (hc_one _ _ _ _) Tryd.sizeOf127 (hc_len rfl hwt) (Nat.le_of_ble_eq_true rfl) (splice_all (by rw [hc_len (by simp) (by simp), hc_len rfl hwt]))) (Wd.u rfl) rfl (fun H1_4 r1_4 => ?_)
  obtain ⟨va3, hs1_4⟩ := r1_4
  replace hv := hv.up hs1_4 (by omega)
  replace hS := hS.up hs1_4 (by omega)
  replace hm0 := hm0.trans hs1_4 (fun b hb0 hb1 => hb1) (fun b hb0 hb1 => by omega)
  replace va2 := va2.up hs1_4 (by omega)
  have hz3 := hs1_4.size
  refine LR.nil ?_
  refine hK2 _ _ ?_
  refine CW.seq (fun K3 hK3 hE3 => ?_)
  have hpz : padZ m.length = (119 - m.length % 64) % 64 := rfl
  refine CW.region ?_
  refine LR.v (Y.fieldAddr va3.pt rfl Tryd.runUnderlying127 rfl rfl Tryd.sizeOf3 (by decide) rfl) (Wd.u rfl) rfl rfl ?_
  refine LR.v (Y.load1 (va3.pt.at 72 (hc_n rfl hwt)) rfl Tryd.isAgg3 rfl) (Wd.u rfl) rfl rfl ?_
  refine LR.v (Y.subi rfl rfl rfl (by omega)) (Wd.u rfl) rfl rfl ?_
  refine LR.v (Y.remi rfl rfl rfl (by omega)) (Wd.u rfl) rfl rfl ?_
  refine LR.v (Y.addi rfl rfl rfl (by omega)) (Wd.u rfl) rfl rfl ?_
  refine LR.z (Z.makew (1 + padZ m.length) ((0 : UInt8)) rfl inf23 Tryd.zeroValue5 rfl fB_len fB_one rfl rfl (by first | rfl | omega) (by omega) (by omega)) (Wd.u rfl) rfl rfl (fun v18 H18 r18 => ?_)
  obtain ⟨ow4, hs18, ob18, hH18⟩ := r18
  have hzs18 : H18.size = H1_4.size + 1 := by rw [hH18]; simp
  replace hv := hv.nw hs18
  replace hS := hS.nw hs18
  replace hm0 := hm0.trans hs18 (fun b hb0 hb1 => hb1) (fun b hb0 hb1 => hb1.elim)
  replace va2 := va2.nw hs18
  replace va3 := va3.nw hs18
  have hz4 := hs18.size
  have hle_ow4 := ow4.le
  refine LR.v (Y.assign rfl rfl) (Wd.u rfl) rfl rfl ?_
  refine LR.nil ?_
  refine hK3 _ _ ?_
  refine CW.seq (fun K4 hK4 hE4 => ?_)
  refine CW.region ?_
  refine LR.v (Y.move rfl rfl) (Wd.u rfl) rfl rfl ?_
  refine LR.v (Y.owAddr ow4 (0) rfl Tryd.runUnderlying23 Tryd.sizeOf5 rfl rfl (by first | rfl | omega) (by first | omega | (simp; omega) | (simp; done))) (Wd.u rfl) rfl rfl ?_
  refine LR.s (S.oww ow4 (0) 0 ((0x80 : UInt8)) rfl rfl rfl rfl Tryd.sizeOf5 (by first | omega | (simp; omega) | (simp; done)) (by decide) (rfl)) (Wd.u rfl) rfl (fun H3_2 r3_2 => ?_)
  obtain ⟨ow4, hs3_2⟩ := r3_2
  replace hv := hv.up hs3_2 (by omega)
  replace hS := hS.up hs3_2 (by omega)
  replace hm0 := hm0.trans hs3_2 (fun b hb0 hb1 => hb1) (fun b hb0 hb1 => by omega)
  replace va2 := va2.up hs3_2 (by omega)
  replace va3 := va3.up hs3_2 (by omega)
  have hz5 := hs3_2.size
  rw [pad_set] at ow4
  refine LR.nil ?_
  refine hK4 _ _ ?_
  refine CW.seq (fun K5 hK5 hE5 => ?_)
  refine CW.seq (fun K6 hK6 hE6 => ?_)
  refine CW.region ?_
  refine LR.v (Y.assign rfl rfl) (Wd.u rfl) rfl rfl ?_
  refine LR.nil ?_
  refine hK6 _ _ ?_
  refine CW.block (fun K7 hK7 hX7 hE7 => ?_)
  refine CW.loop (fun (s_ : (Nat) × (Value) × (Nat) × (List UInt8)) => match s_ with | (j, v', k', ys) => [(0, .pointer (some ⟨hb, 0, none⟩)), (2, .pointer (some ⟨H0.size, 0, none⟩)), (3, .pointer (some ⟨H2.size, 0, none⟩)), (4, v'), (5, .int .i64 (8 * (j : Int) - 8))])
    (fun (s_ : (Nat) × (Value) × (Nat) × (List UInt8)) (H : Heap) => match s_ with | (j, v', k', ys) => (j ≤ 8) ∧ (Ow k' 5 H fB 1 v' ys) ∧ (k' = 0 ∨ k' = H1_4.size + 1 ∨ H3_2.size < k') ∧ (ys ++ numL j (UInt64.ofNat (8 * m.length)) = (0x80 :: List.replicate (padZ m.length) (0 : UInt8)) ++ numL 8 (UInt64.ofNat (8 * m.length))) ∧ Mo (fun c => c = H1_4.size) H3_2 H)
    (fun (s_ : (Nat) × (Value) × (Nat) × (List UInt8)) => match s_ with | (j, v', k', ys) => j) (8, v18, H1_4.size + 1, (0x80 :: List.replicate (padZ m.length) (0 : UInt8))) ⟨rfl, rfl, rfl, rfl, rfl, trivial⟩ ?_ ?_
  ·
    exact ⟨(by omega), ow4, (by omega), rfl, Mo.refl _ _⟩
  rintro ⟨j, v', k', ys⟩ HL1 hI1 K8 hN8 hE8
  obtain ⟨hj, ow4, hk, hys, hlm1⟩ := hI1
  replace hv := hv.up hlm1 (by omega)
  replace hS := hS.up hlm1 (by omega)
  replace hm0 := hm0.trans hlm1 (fun b hb0 hb1 => hb1) (fun b hb0 hb1 => by omega)
  replace va2 := va2.up hlm1 (by omega)
  replace va3 := va3.up hlm1 (by omega)
  have hz6 := hlm1.size
  have hle_ow4 := ow4.le
  have hyl : ys.length + j = padZ m.length + 9 := by have := congrArg List.length hys; simpa [numL_len] using this
  have hpz2 : padZ m.length < 64 := by rw [padZ]; omega
  refine CW.seq (fun K9 hK9 hE9 => ?_)
  refine CW.seq (fun K10 hK10 hE10 => ?_)
  refine CW.region ?_
  refine LR.v (Y.move rfl rfl) (Wd.u rfl) rfl rfl ?_
  refine LR.v (Y.geq rfl rfl rfl) (Wd.u rfl) rfl rfl ?_
  refine LR.nil ?_
  refine hK10 _ _ ?_
  refine CW.condp rfl (fun c22 => ?_) (fun c22 => ?_)
  ·
    obtain ⟨j, rfl⟩ : ∃ q, j = q + 1 := ⟨j - 1, by omega⟩
    refine CW.skip ?_
    refine hK9 _ _ ?_
    refine CW.seq (fun K11 hK11 hE11 => ?_)
    refine CW.block (fun K12 hK12 hX12 hE12 => ?_)
    refine CW.region ?_
    refine LR.v (Y.move rfl rfl) (Wd.u rfl) rfl rfl ?_
    refine LR.v (Y.move rfl rfl) (Wd.u rfl) rfl rfl ?_
    refine LR.v (Y.nilCheck rfl rfl) (Wd.u rfl) rfl rfl ?_
    refine LR.v (Y.fieldAddr hv.pt rfl Tryd.runUnderlying127 rfl rfl Tryd.sizeOf83 (by decide) rfl) (Wd.u rfl) rfl rfl ?_
    refine LR.v (Y.load1 (hv.pt.at 73 (hc_all rfl hwt)) rfl Tryd.isAgg83 rfl) (Wd.u rfl) rfl rfl ?_
    refine LR.v (Y.cast (v2 := .int .u64 (UInt64.ofNat (8 * m.length)).toNat) (Y.mul_u64 (b := (UInt64.ofNat 8)) rfl rfl rfl) (by rw [← UInt64.ofNat_mul, Nat.mul_comm])) (Wd.u rfl) rfl rfl ?_
    refine LR.v (Y.move rfl rfl) (Wd.u rfl) rfl rfl ?_
    refine LR.v (Y.shr_u64 (8 * j) rfl rfl rfl (by first | rfl | omega) (by omega)) (Wd.u rfl) rfl rfl ?_
    refine LR.v (Y.conv_u8 rfl Tryd.runUnderlying83 Tryd.runUnderlying5 rfl) (Wd.u rfl) rfl rfl ?_
    refine LR.z (Z.litw _ ([UInt8.ofNat (shrw_u64 (UInt64.ofNat (8 * m.length)) (8 * j)).toNat]) rfl inf23 rfl rfl rfl (by decide) (by decide) fB_len fB_one (rfl)) (Wd.u rfl) rfl rfl (fun v34 H34 r34 => ?_)
    obtain ⟨ow34, hs34, ob34, hH34⟩ := r34
    have hzs34 : H34.size = HL1.size + 1 := by rw [hH34]; simp
    replace hv := hv.nw hs34
    replace hS := hS.nw hs34
    replace hm0 := hm0.trans hs34 (fun b hb0 hb1 => hb1) (fun b hb0 hb1 => hb1.elim)
    replace va2 := va2.nw hs34
    replace va3 := va3.nw hs34
    replace ow4 := ow4.nw hs34
    try replace hlm1 := hlm1.trans hs34 (fun b hb0 hb1 => hb1) (fun b hb0 hb1 => hb1.elim)
    have hz7 := hs34.size
    have hle_ow34 := ow34.le
    refine LR.z (Z.apnd ow4 ow34.rd rfl inf23 rfl rfl (by first | omega | (simp; omega)) (by first | omega | (simp; omega))) (Wd.u rfl) rfl rfl (fun v35 H35 r35 => ?_)
    obtain ⟨k35, ow35, hk35, hs35⟩ := r35
    replace hv := hv.up hs35 (by omega)
    replace hS := hS.up hs35 (by omega)
    replace hm0 := hm0.trans hs35 (fun b hb0 hb1 => hb1) (fun b hb0 hb1 => by omega)
    replace va2 := va2.up hs35 (by omega)
    replace va3 := va3.up hs35 (by omega)
    try replace hlm1 := hlm1.trans hs35 (fun b hb0 hb1 => hb1) (fun b hb0 hb1 => by omega)
    replace ow34 := ow34.up hs35 (fun b hb0 hb1 hb2 => by omega)
    have hz8 := hs35.size
    have hle_ow35 := ow35.le
    refine LR.v (Y.assign rfl rfl) (Wd.u rfl) rfl rfl ?_
    refine LR.nil ?_
    refine hK12 _ _ ?_
    refine hK11 _ _ ?_
    refine CW.region ?_
    refine LR.v (Y.move rfl rfl) (Wd.u rfl) rfl rfl ?_
    refine LR.v (Y.subi rfl rfl rfl (by omega)) (Wd.u rfl) rfl rfl ?_
    refine LR.v (Y.assign rfl rfl) (Wd.u rfl) rfl rfl ?_
    refine LR.nil ?_
    refine QN.sub (hN8 (j, v35, k35, ys ++ [UInt8.ofNat (shrw_u64 (UInt64.ofNat (8 * m.length)) (8 * j)).toNat]) _ ?_ ?_) ⟨rfl, rfl, rfl, rfl, (iv (by omega)), trivial⟩
    · exact ⟨(by omega), ow35, (by omega), by rw [← hys, List.append_assoc]; rfl, hlm1⟩
    · first | omega | (simp only; omega) | (simp; omega)
  ·
    obtain rfl : j = 0 := by omega
    rw [numL, List.append_nil] at hys
    replace hys : ys = padOf m.length := by rw [hys]; rfl
    subst hys
    refine CW.exit (hE9 (.exit 0) nofun _ _ (hE8 (.exit 0) nofun _ _ (hX7 _ _ ?_)))
    refine hK5 _ _ ?_
    refine CW.seq (fun K13 hK13 hE13 => ?_)
    refine CW.region ?_
    refine LR.v (Y.move rfl rfl) (Wd.u rfl) rfl rfl ?_
    refine LR.z (Z.litw _ ([((toSV v', padOf m.length) : SV × List UInt8)]) rfl inf22 rfl rfl rfl (by decide) (by decide) fP_len fP_one (by simp only [List.map_cons, List.map_nil, fP]; rw [ow4.sv, ow4.rd.cells1])) (Wd.u rfl) rfl rfl (fun v37 H37 r37 => ?_)
    obtain ⟨ow37, hs37, ob37, hH37⟩ := r37
    have hzs37 : H37.size = HL1.size + 1 := by rw [hH37]; simp
    replace hv := hv.nw hs37
    replace hS := hS.nw hs37
    replace hm0 := hm0.trans hs37 (fun b hb0 hb1 => hb1) (fun b hb0 hb1 => hb1.elim)
    replace va2 := va2.nw hs37
    replace va3 := va3.nw hs37
    replace ow4 := ow4.nw hs37
    have hz9 := hs37.size
    have hle_ow37 := ow37.le
    -- call (*selvage/sum.Hash).Write
    refine LR.call rfl Tryd.call56 rfl (Wd.u rfl) rfl rfl (write_ct H2.size _ m (UInt64.ofNat m.length) [((toSV v', padOf m.length) : SV × List UInt8)] w0 _ ⟨wt, hwt, hn ▸ va3, hbuf0⟩ (ow37.rd.imp (fun b _ h => by omega)) (by intro x hx; simp only [List.mem_singleton] at hx; subst hx; simp only; rw [ow4.sv]; exact ow4.rd.imp (fun b _ h => by omega))) (fun v38 H38 r38 => ?_)
    obtain ⟨rfl, hS3, hs38⟩ := r38
    have hct : m ++ cat [((toSV v', padOf m.length) : SV × List UInt8)] = m ++ padOf m.length := by simp [cat]
    rw [hct] at hS3
    obtain ⟨wt3, hwt3, va3, hbuf3⟩ := hS3.ex
    replace hv := hv.up hs38 (by omega)
    replace hS := hS.up hs38 (by omega)
    replace hm0 := hm0.trans hs38 (fun b hb0 hb1 => hb1) (fun b hb0 hb1 => by omega)
    replace va2 := va2.up hs38 (by omega)
    replace ow4 := ow4.up hs38 (fun b hb0 hb1 hb2 => by omega)
    replace ow37 := ow37.up hs38 (fun b hb0 hb1 hb2 => by omega)
    have hz10 := hs38.size
    refine LR.nil ?_
    refine hK13 _ _ ?_
    refine CW.seq (fun K14 hK14 hE14 => ?_)
    refine CW.region ?_
    refine LR.z (Z.allocv rfl Tryd.zeroValue80) (Wd.u rfl) rfl rfl (fun v6 H6 r6 => ?_)
    obtain ⟨rfl, va6, hs6, ob6, hH6⟩ := r6
    have hzs6 : H6.size = H38.size + 1 := by rw [hH6]; simp
    replace hv := hv.nw hs6
    replace hS := hS.nw hs6
    replace hm0 := hm0.trans hs6 (fun b hb0 hb1 => hb1) (fun b hb0 hb1 => hb1.elim)
    replace va2 := va2.nw hs6
    replace va3 := va3.nw hs6
    replace ow4 := ow4.nw hs6
    replace ow37 := ow37.nw hs6
    have hz11 := hs6.size
    have hlt_va6 := va6.lt
    replace va6 : Var 80 H6 H38.size ((List.replicate 32 (0 : UInt8)).map V8) := va6
    refine LR.nil ?_
    refine hK14 _ _ ?_
    refine CW.seq (fun K15 hK15 hE15 => ?_)
    refine CW.seq (fun K16 hK16 hE16 => ?_)
    refine CW.region ?_
    refine LR.v (Y.fieldAddr va3.pt rfl Tryd.runUnderlying127 rfl rfl Tryd.sizeOf108 (by decide) rfl) (Wd.u rfl) rfl rfl ?_
    refine LR.v (Y.cast (v2 := .agg ((run IV (m ++ padOf m.length)).1.list.map V32).toArray) (Y.loadN (va3.pt.take 8) rfl Tryd.isAgg108 Tryd.sizeOf108 (rfl) rfl) (rfl)) (Wd.u rfl) rfl rfl ?_
    refine LR.v (Y.move rfl rfl) (Wd.u rfl) rfl rfl ?_
    refine LR.nil ?_
    refine hK16 _ _ ?_
    refine CW.block (fun K17 hK17 hX17 hE17 => ?_)
    refine CW.loop (fun (s_ : (Nat) × (List UInt8)) => match s_ with | (i, o) => [(2, .pointer (some ⟨H0.size, 0, none⟩)), (6, .pointer (some ⟨H38.size, 0, none⟩)), (40, .agg ((run IV (m ++ padOf m.length)).1.list.map V32).toArray), (41, .int .i64 i)])
      (fun (s_ : (Nat) × (List UInt8)) (H : Heap) => match s_ with | (i, o) => (i ≤ 8) ∧ (o.length = 32) ∧ (o.take (4 * i) = (outL (run IV (m ++ padOf m.length)).1.list).take (4 * i)) ∧ (Var 80 H H38.size (o.map V8)) ∧ Mo (fun c => c = H38.size) H6 H)
      (fun (s_ : (Nat) × (List UInt8)) => match s_ with | (i, o) => 8 - i) (0, List.replicate 32 0) ⟨rfl, rfl, rfl, rfl, trivial⟩ ?_ ?_
    ·
      exact ⟨(by omega), by simp, by simp, va6, Mo.refl _ _⟩
    rintro ⟨i, o⟩ HL2 hI2 K18 hN18 hE18
    obtain ⟨hi, hol, hot, va6, hlm2⟩ := hI2
    replace hv := hv.up hlm2 (by omega)
    replace hS := hS.up hlm2 (by omega)
    replace hm0 := hm0.trans hlm2 (fun b hb0 hb1 => hb1) (fun b hb0 hb1 => by omega)
    replace va2 := va2.up hlm2 (by omega)
    replace va3 := va3.up hlm2 (by omega)
    replace ow4 := ow4.up hlm2 (fun b hb0 hb1 hb2 => by omega)
    replace ow37 := ow37.up hlm2 (fun b hb0 hb1 hb2 => by omega)
    have hz12 := hlm2.size
    have hlt_va6 := va6.lt
    refine CW.seq (fun K19 hK19 hE19 => ?_)
    refine CW.region ?_
    refine LR.v (Y.lss rfl rfl rfl) (Wd.u rfl) rfl rfl ?_
    refine LR.nil ?_
    refine hK19 _ _ ?_
    refine CW.seq (fun K20 hK20 hE20 => ?_)
    refine CW.condp rfl (fun c42 => ?_) (fun c42 => ?_)
    ·
      refine CW.skip ?_
      refine hK20 _ _ ?_
      refine CW.seq (fun K21 hK21 hE21 => ?_)
      refine CW.block (fun K22 hK22 hX22 hE22 => ?_)
      refine CW.seq (fun K23 hK23 hE23 => ?_)
      refine CW.region ?_
      refine LR.v (Y.move rfl rfl) (Wd.u rfl) rfl rfl ?_
      refine LR.v (Y.arrIndex (i) rfl Tryd.runUnderlying108 Tryd.sizeOf106 Tryd.isAgg106 rfl rfl (by first | rfl | omega) (by omega) ((by rw [List.getElem?_toArray]; exact map_get (run IV (m ++ padOf m.length)).1.list i (by simp; omega)))) (Wd.u rfl) rfl rfl ?_
      refine LR.v (Y.assign rfl rfl) (Wd.u rfl) rfl rfl ?_
      refine LR.v (Y.assign rfl rfl) (Wd.u rfl) rfl rfl ?_
      refine LR.nil ?_
      refine hK23 _ _ ?_
      refine CW.seq (fun K24 hK24 hE24 => ?_)
      refine CW.region ?_
      refine LR.v (Y.move rfl rfl) (Wd.u rfl) rfl rfl ?_
      refine LR.nil ?_
      refine hK24 _ _ ?_
      refine CW.block (fun K25 hK25 hX25 hE25 => ?_)
      refine CW.loop (fun (s_ : (Nat) × (List UInt8)) => match s_ with | (k, o) => [(2, .pointer (some ⟨H0.size, 0, none⟩)), (6, .pointer (some ⟨H38.size, 0, none⟩)), (7, .int .i64 i), (8, .int .u32 ((run IV (m ++ padOf m.length)).1.list.getD i 0).toNat), (40, .agg ((run IV (m ++ padOf m.length)).1.list.map V32).toArray), (41, .int .i64 i), (45, .int .i64 k)])
        (fun (s_ : (Nat) × (List UInt8)) (H : Heap) => match s_ with | (k, o) => (k ≤ 4) ∧ (o.length = 32) ∧ (o.take (4 * i + k) = (outL (run IV (m ++ padOf m.length)).1.list).take (4 * i + k)) ∧ (Var 80 H H38.size (o.map V8)) ∧ Mo (fun c => c = H38.size) HL2 H)
        (fun (s_ : (Nat) × (List UInt8)) => match s_ with | (k, o) => 4 - k) (0, o) ⟨rfl, rfl, rfl, rfl, rfl, rfl, rfl, trivial⟩ ?_ ?_
      ·
        exact ⟨(by omega), hol, hot, va6, Mo.refl _ _⟩
      rintro ⟨k, o⟩ HL3 hI3 K26 hN26 hE26
      obtain ⟨hk4, hol, hot, va6, hlm3⟩ := hI3
      replace hv := hv.up hlm3 (by omega)
      replace hS := hS.up hlm3 (by omega)
      replace hm0 := hm0.trans hlm3 (fun b hb0 hb1 => hb1) (fun b hb0 hb1 => by omega)
      replace va2 := va2.up hlm3 (by omega)
      replace va3 := va3.up hlm3 (by omega)
      replace ow4 := ow4.up hlm3 (fun b hb0 hb1 hb2 => by omega)
      replace ow37 := ow37.up hlm3 (fun b hb0 hb1 hb2 => by omega)
      try replace hlm2 := hlm2.trans hlm3 (fun b hb0 hb1 => hb1) (fun b hb0 hb1 => by omega)
      have hz13 := hlm3.size
      have hlt_va6 := va6.lt
      refine CW.seq (fun K27 hK27 hE27 => ?_)
      refine CW.region ?_
      refine LR.v (Y.lss rfl rfl rfl) (Wd.u rfl) rfl rfl ?_
      refine LR.nil ?_
      refine hK27 _ _ ?_
      refine CW.seq (fun K28 hK28 hE28 => ?_)
      refine CW.condp rfl (fun c46 => ?_) (fun c46 => ?_)
      ·
        refine CW.skip ?_
        refine hK28 _ _ ?_
        refine CW.seq (fun K29 hK29 hE29 => ?_)
        refine CW.block (fun K30 hK30 hX30 hE30 => ?_)
        refine CW.seq (fun K31 hK31 hE31 => ?_)
        refine CW.region ?_
        refine LR.v (Y.move rfl rfl) (Wd.u rfl) rfl rfl ?_
        refine LR.v (Y.assign rfl rfl) (Wd.u rfl) rfl rfl ?_
        refine LR.nil ?_
        refine hK31 _ _ ?_
        refine CW.region ?_
        refine LR.v (Y.move rfl rfl) (Wd.u rfl) rfl rfl ?_
        refine LR.v (Y.muli rfl rfl rfl (by omega)) (Wd.u rfl) rfl rfl ?_
        refine LR.v (Y.move rfl rfl) (Wd.u rfl) rfl rfl ?_
        refine LR.v (Y.addi rfl rfl rfl (by omega)) (Wd.u rfl) rfl rfl ?_
        refine LR.v (Y.move rfl rfl) (Wd.u rfl) rfl rfl ?_
        refine LR.v (Y.move rfl rfl) (Wd.u rfl) rfl rfl ?_
        refine LR.v (Y.muli rfl rfl rfl (by omega)) (Wd.u rfl) rfl rfl ?_
        refine LR.v (Y.subi rfl rfl rfl (by omega)) (Wd.u rfl) rfl rfl ?_
        refine LR.v (Y.shr_u32 (24 - 8 * k) rfl rfl rfl (by omega) (by omega)) (Wd.u rfl) rfl rfl ?_
        refine LR.v (Y.conv_u8 rfl Tryd.runUnderlying106 Tryd.runUnderlying5 rfl) (Wd.u rfl) rfl rfl ?_
        refine LR.v (Y.arrAddr va6.pt (4 * i + k) rfl Tryd.runUnderlying80 Tryd.sizeOf5 rfl rfl (by first | rfl | omega) (by first | omega | (simp; omega) | (simp; done))) (Wd.u rfl) rfl rfl ?_
        refine LR.s (S.var1 va6 (0 + (4 * i + k)) (_) rfl rfl rfl (rfl) Tryd.sizeOf5 (by simp; omega) (map_set8 o (4 * i + k) _)) (Wd.u rfl) rfl (fun H16_11 r16_11 => ?_)
        obtain ⟨va6, hs16_11⟩ := r16_11
        replace hv := hv.up hs16_11 (by omega)
        replace hS := hS.up hs16_11 (by omega)
        replace hm0 := hm0.trans hs16_11 (fun b hb0 hb1 => hb1) (fun b hb0 hb1 => by omega)
        replace va2 := va2.up hs16_11 (by omega)
        replace va3 := va3.up hs16_11 (by omega)
        replace ow4 := ow4.up hs16_11 (fun b hb0 hb1 hb2 => by omega)
        replace ow37 := ow37.up hs16_11 (fun b hb0 hb1 hb2 => by omega)
        try replace hlm2 := hlm2.trans hs16_11 (fun b hb0 hb1 => hb1) (fun b hb0 hb1 => by omega)
        try replace hlm3 := hlm3.trans hs16_11 (fun b hb0 hb1 => hb1) (fun b hb0 hb1 => by omega)
        have hz14 := hs16_11.size
        refine LR.nil ?_
        refine hK30 _ _ ?_
        refine hK29 _ _ ?_
        refine CW.region ?_
        refine LR.v (Y.addi rfl rfl rfl (by omega)) (Wd.u rfl) rfl rfl ?_
        refine LR.v (Y.move rfl rfl) (Wd.u rfl) rfl rfl ?_
        refine LR.nil ?_
        refine QN.sub (hN26 (k + 1, o.set (4 * i + k) (UInt8.ofNat (shrw_u32 ((run IV (m ++ padOf m.length)).1.list.getD i 0) (24 - 8 * k)).toNat)) _ ?_ ?_) ⟨rfl, rfl, (iv (by omega)), (iv (by omega)), rfl, (iv (by omega)), (iv (by omega)), trivial⟩
        · exact ⟨(by omega), by simp [hol], take8_succ o _ (4 * i + k) _ hot (by omega) (outL_at _ i k (by omega) (by omega)), va6, hlm3⟩
        · first | omega | (simp only; omega) | (simp; omega)
      ·
        obtain rfl : k = 4 := by omega
        rw [show 4 * i + 4 = 4 * (i + 1) by omega] at hot
        refine CW.exit (hE28 (.exit 4) nofun _ _ (hE26 (.exit 4) nofun _ _ (hX25 _ _ ?_)))
        refine hK22 _ _ ?_
        refine hK21 _ _ ?_
        refine CW.region ?_
        refine LR.v (Y.addi rfl rfl rfl (by omega)) (Wd.u rfl) rfl rfl ?_
        refine LR.v (Y.move rfl rfl) (Wd.u rfl) rfl rfl ?_
        refine LR.nil ?_
        refine QN.sub (hN18 (i + 1, o) _ ?_ ?_) ⟨rfl, rfl, rfl, (iv (by omega)), trivial⟩
        · exact ⟨(by omega), hol, hot, va6, hlm2⟩
        · first | omega | (simp only; omega) | (simp; omega)
    ·
      obtain rfl : i = 8 := by omega
      rw [List.take_of_length_le (by omega), List.take_of_length_le (by rw [outL_len]; omega), show outL (run IV (m ++ padOf m.length)).1.list = sumOf m from rfl] at hot
      subst hot
      refine CW.exit (hE20 (.exit 2) nofun _ _ (hE18 (.exit 2) nofun _ _ (hX17 _ _ ?_)))
      refine hK15 _ _ ?_
      refine CW.seq (fun K32 hK32 hE32 => ?_)
      refine CW.region ?_
      refine LR.v (Y.loadN va6.pt rfl Tryd.isAgg80 Tryd.sizeOf80 (rfl) rfl) (Wd.u rfl) rfl rfl ?_
      refine LR.s (S.var va2 ((sumOf m).map V8) ((sumOf m).map V8) rfl rfl rfl rfl (by intro u hu; obtain ⟨x, _, rfl⟩ := List.mem_map.1 hu; rfl) Tryd.sizeOf80 (rfl) (by simp [sumOf_len]) (by simp [splice, sumOf_len])) (Wd.u rfl) rfl (fun H19_1 r19_1 => ?_)
      obtain ⟨va2, hs19_1⟩ := r19_1
      replace hv := hv.up hs19_1 (by omega)
      replace hS := hS.up hs19_1 (by omega)
      replace hm0 := hm0.trans hs19_1 (fun b hb0 hb1 => hb1) (fun b hb0 hb1 => by omega)
      replace va3 := va3.up hs19_1 (by omega)
      replace ow4 := ow4.up hs19_1 (fun b hb0 hb1 hb2 => by omega)
      replace ow37 := ow37.up hs19_1 (fun b hb0 hb1 hb2 => by omega)
      replace va6 := va6.up hs19_1 (by omega)
      have hz15 := hs19_1.size
      refine LR.nil ?_
      refine hK32 _ _ ?_
      refine CW.ret (hret .ret (.inr rfl) _ _ _ (resC rfl rfl va2.pt Tryd.isAgg80 Tryd.sizeOf80 (by first | rfl | simp)) ?_)
      exact ⟨rfl, hm0⟩


theorem ofNat_zero_add (n : Nat) : (0 : UInt64) + UInt64.ofNat n = UInt64.ofNat n := by simp

theorem pof_ct (vl : Value) (l : List (SV × List UInt8)) (w0 : World) (H0 : Heap)
    (hl : RdT H0 fP 1 vl l) (hx : ∀ x ∈ l, RdT H0 fB 1 x.1.v x.2) (hml : (cat l).length ≤ 1099511627776) :
    Ct Tryd.prog w0 37 #[vl] H0 (fun r H2 => r = .agg ((sumOf (cat l)).map V8).toArray ∧ Mo (fun c => False) H0 H2) := by
  refine Ct.enter (args := [vl]) Tryd.func37 rfl rfl rfl ?_
  intro Q0 hret
  replace hl := hl.lt
  replace hx := fun x hx0 => (hx x hx0).lt
  have hm0 : Mo (fun c => False) H0 H0 := Mo.refl _ _
  refine CW.seq (fun K1 hK1 hE1 => ?_)
  refine CW.region ?_
  refine LR.z (Z.allocv rfl Tryd.zeroValue80) (Wd.u rfl) rfl rfl (fun v2 H2 r2 => ?_)
  obtain ⟨rfl, va2, hs2, ob2, hH2⟩ := r2
  have hzs2 : H2.size = H0.size + 1 := by rw [hH2]; simp
  replace hl := hl.nw hs2
  replace hx := fun x hx0 => (hx x hx0).up hs2 (fun b hb0 hb1 hb2 => hb2)
  replace hm0 := hm0.trans hs2 (fun b hb0 hb1 => hb1) (fun b hb0 hb1 => hb1.elim)
  have hz1 := hs2.size
  have hlt_va2 := va2.lt
  replace va2 : Var 80 H2 H0.size ((List.replicate 32 (0 : UInt8)).map V8) := va2
  refine LR.nil ?_
  refine hK1 _ _ ?_
  refine CW.seq (fun K2 hK2 hE2 => ?_)
  refine CW.region ?_
  -- call selvage/sum.New
  refine LR.call rfl Tryd.call55 rfl (Wd.u rfl) rfl rfl (new_ct w0 _) (fun v4 H4 r4 => ?_)
  obtain ⟨rfl, hS, hs4, hz4⟩ := r4
  replace hl := hl.nw hs4
  replace hx := fun x hx0 => (hx x hx0).up hs4 (fun b hb0 hb1 hb2 => hb2)
  replace hm0 := hm0.trans hs4 (fun b hb0 hb1 => hb1) (fun b hb0 hb1 => hb1.elim)
  replace va2 := va2.nw hs4
  have hz2 := hs4.size
  refine LR.v (Y.assign rfl rfl) (Wd.u rfl) rfl rfl ?_
  refine LR.nil ?_
  refine hK2 _ _ ?_
  refine CW.seq (fun K3 hK3 hE3 => ?_)
  refine CW.region ?_
  refine LR.v (Y.move rfl rfl) (Wd.u rfl) rfl rfl ?_
  refine LR.v (Y.move rfl rfl) (Wd.u rfl) rfl rfl ?_
  have hSl := hS.lt
  -- call (*selvage/sum.Hash).Write
  refine LR.call rfl Tryd.call56 rfl (Wd.u rfl) rfl rfl (write_ct H2.size _ [] 0 l w0 _ hS (hl.imp (fun b _ h => by omega)) (fun x hx0 => (hx x hx0).imp (fun b _ h => by omega))) (fun v7 H7 r7 => ?_)
  obtain ⟨rfl, hS, hs7⟩ := r7
  rw [List.nil_append, ofNat_zero_add] at hS
  replace hl := hl.up hs7 (fun b hb0 hb1 hb2 => by omega)
  replace hx := fun x hx0 => (hx x hx0).up hs7 (fun b hb0 hb1 hb2 => by omega)
  replace hm0 := hm0.trans hs7 (fun b hb0 hb1 => hb1) (fun b hb0 hb1 => by omega)
  replace va2 := va2.up hs7 (by omega)
  have hz3 := hs7.size
  refine LR.nil ?_
  refine hK3 _ _ ?_
  refine CW.seq (fun K4 hK4 hE4 => ?_)
  refine CW.region ?_
  refine LR.v (Y.move rfl rfl) (Wd.u rfl) rfl rfl ?_
  -- call (*selvage/sum.Hash).Sum
  refine LR.call rfl Tryd.call57 rfl (Wd.u rfl) rfl rfl (psum_ct _ (cat l) w0 _ hS hml) (fun v9 H9 r9 => ?_)
  obtain ⟨rfl, hs9⟩ := r9
  replace hl := hl.nw hs9
  replace hx := fun x hx0 => (hx x hx0).up hs9 (fun b hb0 hb1 hb2 => hb2)
  replace hm0 := hm0.trans hs9 (fun b hb0 hb1 => hb1) (fun b hb0 hb1 => hb1.elim)
  replace va2 := va2.nw hs9
  have hz4 := hs9.size
  refine LR.s (S.var va2 ((sumOf (cat l)).map V8) ((sumOf (cat l)).map V8) rfl rfl rfl rfl (by intro u hu; obtain ⟨x, _, rfl⟩ := List.mem_map.1 hu; rfl) Tryd.sizeOf80 (rfl) (by simp [sumOf_len]) (by simp [splice, sumOf_len])) (Wd.u rfl) rfl (fun H3_2 r3_2 => ?_)
  obtain ⟨va2, hs3_2⟩ := r3_2
  replace hl := hl.up hs3_2 (fun b hb0 hb1 hb2 => by omega)
  replace hx := fun x hx0 => (hx x hx0).up hs3_2 (fun b hb0 hb1 hb2 => by omega)
  replace hm0 := hm0.trans hs3_2 (fun b hb0 hb1 => hb1) (fun b hb0 hb1 => by omega)
  have hz5 := hs3_2.size
  refine LR.nil ?_
  refine hK4 _ _ ?_
  refine CW.ret (hret .ret (.inr rfl) _ _ _ (resC rfl rfl va2.pt Tryd.isAgg80 Tryd.sizeOf80 (by first | rfl | simp)) ?_)
  exact ⟨rfl, hm0⟩

end Go.Proofs.YtdliddjkacbggaaDoor.SumG
/-
  Maps that are ours, told by their block's number: for program-printed bookkeeping: no condition.
-/
namespace Go.Proofs.YtdliddjkacbggaaDoor.E
open Go.MapKept
set_option linter.unusedVariables false
set_option linter.unusedSimpArgs false
set_option linter.unusedSectionVars false
/-- the block b is a map that holds m -/
structure Mp {κ β : Type} (H : Heap) (fk : κ → Value) (fv : β → Value) (b : Nat) (m : List (κ × β)) : Prop where
  mo : MapOf (fun x => x = b) H fk fv (.map (some b)) m
section
variable {κ β : Type} {H H' : Heap} {fk : κ → Value} {fv : β → Value} {b k : Nat} {m : List (κ × β)} {ks : List Nat}
theorem Mp.lt (h : Mp H fk fv b m) : b < H.size := h.mo.blk_lt
theorem Mp.up {S : Nat → Prop} (h : Mp H fk fv b m) (s : Mo S H H') (hS : ¬ S b) : Mp H' fk fv b m := ⟨h.mo.up s (fun x _ e h2 => hS (by rw [← e]; exact h2))⟩
theorem Mp.nw (h : Mp H fk fv b m) (s : Nw H H') : Mp H' fk fv b m := ⟨h.mo.nw s⟩
theorem Mp.upL (x : Mp H fk fv b m) (s : Mo (Ms ks) H H') (d : DL (b + 1) ks) : Mp H' fk fv b m := x.up s (fun h2 => d (b + 1) h2 b rfl rfl)
end
section
variable {P : Program} {w0 : World} {n : Nat} {l : FL} {H : Heap} {o : Oper} {κ β : Type} [DecidableEq κ] {fk : κ → Value} {fv : β → Value} {b : Nat} {m : List (κ × β)} {d : TypeDesc}
theorem Z.makeMp (fk : κ → Value) (fv : β → Value) {t : TypeId} (ho : o.op = .makeMap t none) : Z P w0 n l H o (fun r H' => r = .map (some H.size) ∧ Mp H' fk fv H.size ([] : List (κ × β)) ∧ Nw H H' ∧ ∃ ob, H' = H.push ob) := by
  intro a w hf ha
  refine ⟨.map (some w.heap.size), H.push (.map #[] 0), w.alloc (.map #[] 0), ?_, ha.alloc _, by rw [ha.heap], ⟨H.size, #[], 0, rfl, rfl, by simp, stamped_empty 0, rfl⟩, Nw.pu _ _, _, rfl⟩
  simp [execOp, ho, Instr.makeMap]
theorem S.putMp {t kt et : TypeId} {x i y : Operand} {k : κ} (z : β) (h : Mp H fk fv b m) (hfk : KeyFn d fk) (ho : o.op = .mapUpdate t x i y) (hm : ∀ w, (underlying t).run P w = .ok (.map kt et) w) (hk : P.underlying kt = some d)
    (hx : opv l x = some (.map (some b))) (hi : opv l i = some (fk k)) (hy : opv l y = some (fv z)) : S P w0 n l H o (fun H' => Mp H' fk fv b (mput m k z) ∧ Mo (fun c => c = b) H H') :=
  (S.mapUpdate h.mo hfk ho hm hk hx hi hy).mono fun H' ⟨h1, h2⟩ => ⟨⟨h1⟩, h2⟩
end
theorem mget_put {κ β : Type} [DecidableEq κ] (m : List (κ × β)) (k : κ) (b : β) (q : κ) : mget (mput m k b) q = if q = k then some b else mget m q := by
  have h1 : ∀ m : List (κ × β), mget (m.map (fun p => if p.1 = k then (p.1, b) else p)) q = if q = k then (mget m q).map (fun _ => b) else mget m q := by
    intro m
    induction m with
    | nil => simp [mget]
    | cons p m ih =>
      simp only [List.map_cons]
      by_cases hp : p.1 = k
      · rw [if_pos hp]
        by_cases hq : q = p.1
        · have : q = k := hq.trans hp
          simp [mget, hq, hp]
        · simp only [mget]
          rw [if_neg hq, ih, if_neg hq]
      · rw [if_neg hp]
        by_cases hq : q = p.1
        · have : ¬ q = k := fun e => hp (by rw [← hq, e])
          simp [mget, hq, hp]
        · simp only [mget]
          rw [if_neg hq, ih, if_neg hq]
  have h2 : ∀ m : List (κ × β), mget (m ++ [(k, b)]) q = (mget m q).or (if q = k then some b else none) := by
    intro m
    induction m with
    | nil => simp [mget]
    | cons p m ih =>
      simp only [List.cons_append, mget]
      split
      · simp
      · exact ih
  unfold mput
  split
  · rename_i h
    rw [h1]
    by_cases hq : q = k
    · subst hq
      obtain ⟨z, hz⟩ := Option.isSome_iff_exists.1 h
      simp [hz]
    · simp [hq]
  · rename_i h
    rw [h2]
    by_cases hq : q = k
    · subst hq
      have : mget m q = none := by simpa using h
      simp [this]
    · simp [hq]
section
variable {P : Program} {w0 : World} {Q : Exit → Act → World → Prop} {n : Nat} {l : FL} {H : Heap} {ops : Array Oper} {rest : List Oper} {o : Oper}
/-- an operation that turns the heap, whose value nobody takes -/
theorem LR.zn {R : Value → Heap → Prop} (hz : Z P w0 n l H o R) (hw : Wd ops l o) (hd : o.dst = none)
    (h : ∀ v H', R v H' → LR false P w0 ops Q n l rest H') : LR false P w0 ops Q n l (o :: rest) H := by
  intro a w hf ha
  obtain ⟨v, H', w', hr, ha', hR⟩ := hz a w hf ha
  have hh := h v H' hR a w' hf ha'
  simp only [Md] at hh ⊢
  unfold wpList
  rw [if_pos (hw n a hf)]
  refine .inl ?_
  unfold Oper.wp
  rw [hr]
  show wpList P ops Q rest (a.put o.dst v) w'
  rw [hd]
  exact hh
end
section
variable {P : Program} {w0 : World} {Q : Exit → Act → World → Prop} {SH : Heap → Prop} {X : List Nat} {n k : Nat} {l : FL} {H : Heap} {ops : Array Oper} {o : Oper} {dn : List Nat}
theorem LH.four {i j m p : Nat} (hr : Region.ready .any ops (lst ops.size dn) = [i, j, m, p]) (h : LO P w0 ops Q SH X n k i dn l H) (h2 : LO P w0 ops Q SH X n k j dn l H) (h3 : LO P w0 ops Q SH X n k m dn l H) (h4 : LO P w0 ops Q SH X n k p dn l H) : LH P w0 ops Q SH X n (k + 1) dn l H :=
  fun a w hf ha => wpAnyE_all hr (by simp) (fun q hq => by
    simp only [List.mem_cons, List.not_mem_nil, or_false] at hq
    rcases hq with rfl | rfl | rfl | rfl
    · exact h a w hf ha
    · exact h2 a w hf ha
    · exact h3 a w hf ha
    · exact h4 a w hf ha)
end
end Go.Proofs.YtdliddjkacbggaaDoor.E
/-
  Maps whose keys are arrays of bytes, deletes, entries written in place, ranges over maps, calls through an interface: no condition.
-/
namespace Go.Proofs.YtdliddjkacbggaaDoor.E
open Go.MapKept
set_option linter.unusedVariables false
set_option linter.unusedSimpArgs false
set_option linter.unusedSectionVars false

/-- 32 bytes -/
abbrev Ide := { l : List UInt8 // l.length = 32 }
def Zid : Ide := ⟨List.replicate 32 0, by simp⟩
instance : Inhabited Ide := ⟨Zid⟩
theorem nodup_inj {α β : Type} {f : α → β} : ∀ {l : List α}, (l.map f).Nodup → ∀ {x y : α}, x ∈ l → y ∈ l → f x = f y → x = y
  | [], _, _, _, h, _, _ => by cases h
  | a :: l, hn, x, y, hx, hy, e => by
    simp only [List.map_cons, List.nodup_cons] at hn
    rcases List.mem_cons.1 hx with rfl | hx2 <;> rcases List.mem_cons.1 hy with rfl | hy2
    · rfl
    · exact (hn.1 (List.mem_map.2 ⟨y, hy2, e.symm⟩)).elim
    · exact (hn.1 (List.mem_map.2 ⟨x, hx2, e⟩)).elim
    · exact nodup_inj hn.2 hx2 hy2 e
/-- keys that are arrays -/
structure KeyA {κ : Type} [DecidableEq κ] (P : Program) (kt : TypeId) (fk : κ → Value) : Prop where
  und : ∃ len e, P.underlying kt = some (.array len e)
  check : ∀ em k w, (Instr.checkKey em 10000 kt (fk k)).run P w = .ok () w
  eq : ∀ a b w, (Op.equal kt (fk a) (fk b)).run P w = .ok (decide (a = b)) w
  same : ∀ k, Instr.sameBits 10000 (fk k) (fk k) = true
  inj : ∀ a b, fk a = fk b → a = b

section
variable {P : Program} {w0 : World} {n : Nat} {l : FL} {H : Heap} {o : Oper}
variable {κ β : Type} [DecidableEq κ] {G : Nat → Prop} {fk : κ → Value} {fv : β → Value} {v : Value} {m : List (κ × β)} {kt : TypeId} {b : Nat}

theorem find_entriesA {k : κ} {w : World} (hk : KeyA P kt fk) : ∀ (es : List MapEntry) (m : List (κ × β)) (i : Nat), es.map (fun e => (e.key, e.val)) = m.map (fun p => (fk p.1, fv p.2)) →
    (mget m k = none ∧ (Instr.findAsking kt (fk k) es i).run P w = .ok none w ∧ ∀ x ∈ es, x.key ≠ fk k) ∨ ∃ j e b, mget m k = some b ∧ (Instr.findAsking kt (fk k) es i).run P w = .ok (some (i + j, fv b)) w ∧ es[j]? = some e ∧ e.key = fk k ∧ e.val = fv b
  | [], m, i, h => by
    have : m = [] := by cases m <;> simp_all
    subst this
    exact .inl ⟨rfl, by simp [Instr.findAsking], by simp⟩
  | e :: es, m, i, h => by
    match m, h with
    | (a, c) :: m, h =>
      simp only [List.map_cons, List.cons.injEq, Prod.mk.injEq] at h
      obtain ⟨⟨h1, h2⟩, h3⟩ := h
      have hq := hk.eq k a w
      rw [← h1] at hq
      by_cases hka : k = a
      · subst hka
        simp only [decide_true] at hq
        exact .inr ⟨0, e, c, by simp [mget], by simp [Instr.findAsking, hq, h2], rfl, h1, h2⟩
      · simp only [hka, decide_false] at hq
        rcases find_entriesA (k := k) (w := w) hk es m (i + 1) h3 with ⟨q1, q2, q3⟩ | ⟨j, e', b', q1, q2, q3, q4, q5⟩
        · refine .inl ⟨?_, by simp [Instr.findAsking, hq, q2], ?_⟩
          · simp only [mget, hka, if_false]; exact q1
          · intro x hx
            cases hx with
            | head => intro q; exact hka (hk.inj _ _ (by rw [← q, h1]))
            | tail _ hx => exact q3 x hx
        · refine .inr ⟨j + 1, e', b', ?_, ?_, by simpa using q3, q4, q5⟩
          · simp only [mget, hka, if_false]; exact q1
          · simp [Instr.findAsking, hq, q2]; omega

theorem mo_set {r : Nat} (ob : Obj) : Mo (fun c => c = r) H (H.setIfInBounds r ob) := ⟨by simp, fun b hb hne => by simp [Ne.symm hne]⟩
theorem modify_entriesA {k : κ} {b : β} {key : Value} (hinj : ∀ a b, fk a = fk b → a = b) (hkey : key = fk k) : ∀ (es : List MapEntry) (m : List (κ × β)) (j : Nat) (e : MapEntry), es.map (fun e => (e.key, e.val)) = m.map (fun p => (fk p.1, fv p.2)) → (es.map (·.key)).Nodup → es[j]? = some e → e.key = fk k →
    (es.modify j (fun e => { e with key := key, val := fv b })).map (fun e => (e.key, e.val)) = (m.map (fun p => if p.1 = k then (p.1, b) else p)).map (fun p => (fk p.1, fv p.2))
  | [], _, _, _, _, _, h, _ => by simp at h
  | x :: es, m, j, e, h, hn, hj, he => by
    match m, h with
    | (a, c) :: m, h =>
      simp only [List.map_cons, List.cons.injEq, Prod.mk.injEq] at h
      obtain ⟨⟨h1, h2⟩, h3⟩ := h
      simp only [List.map_cons, List.nodup_cons] at hn
      cases j with
      | zero =>
        simp only [List.getElem?_cons_zero, Option.some.injEq] at hj
        subst hj
        have hak : a = k := hinj _ _ (by rw [← h1, he])
        subst hak
        simp only [List.modify_zero_cons, List.map_cons, if_true, hkey]
        congr 1
        rw [h3, List.map_map]
        apply List.map_congr_left
        intro p hp
        have : p.1 ≠ a := by
          intro e
          apply hn.1
          have : (fk p.1, fv p.2) ∈ es.map (fun e => (e.key, e.val)) := by rw [h3]; exact List.mem_map.2 ⟨p, hp, rfl⟩
          obtain ⟨y, hy, hye⟩ := List.mem_map.1 this
          simp only [Prod.mk.injEq] at hye
          exact List.mem_map.2 ⟨y, hy, by rw [hye.1, e, h1]⟩
        simp [this]
      | succ j =>
        simp only [List.getElem?_cons_succ] at hj
        have hak : a ≠ k := by
          intro q
          subst q
          apply hn.1
          rw [h1, ← he]
          exact List.mem_map.2 ⟨e, List.mem_of_getElem? hj, rfl⟩
        simp only [List.modify_succ_cons, List.map_cons, hak, if_false, h1, h2]
        rw [modify_entriesA hinj hkey es m j e h3 hn.2 hj he]

/-- without a key -/
def mdel (m : List (κ × β)) (k : κ) : List (κ × β) := m.filter (fun p => decide (p.1 ≠ k))
theorem mget_del (m : List (κ × β)) (k q : κ) : mget (mdel m k) q = if q = k then none else mget m q := by
  induction m with
  | nil => simp [mdel, mget]
  | cons p m ih =>
    unfold mdel at ih ⊢
    by_cases hp : p.1 = k
    · rw [List.filter_cons_of_neg (by simp [hp]), ih]
      by_cases hq : q = k
      · simp [hq]
      · rw [if_neg hq, if_neg hq]; simp only [mget]; rw [if_neg (fun e => hq (e.trans hp))]
    · rw [List.filter_cons_of_pos (by simp [hp])]
      simp only [mget]
      by_cases hq : q = p.1
      · rw [if_pos hq, if_pos hq, if_neg (fun e => hp (hq.symm.trans e))]
      · rw [if_neg hq, if_neg hq, ih]
theorem mget_mem {m : List (κ × β)} {k : κ} {z : β} (h : mget m k = some z) : (k, z) ∈ m := by
  induction m with
  | nil => cases h
  | cons p m ih =>
    simp only [mget] at h
    split at h
    · rename_i e; cases h; rw [e]; exact .head _
    · exact .tail _ (ih h)
theorem mget_none {m : List (κ × β)} {k : κ} (h : mget m k = none) : ∀ p ∈ m, p.1 ≠ k := by
  induction m with
  | nil => simp
  | cons p m ih =>
    simp only [mget] at h
    split at h
    · cases h
    · rename_i hne
      intro q hq e
      cases hq with
      | head => exact hne e.symm
      | tail _ hq => exact ih h q hq e
theorem mget_of_mem {m : List (κ × β)} (hn : (m.map (·.1)).Nodup) {k : κ} {z : β} (h : (k, z) ∈ m) : mget m k = some z := by
  induction m with
  | nil => cases h
  | cons p m ih =>
    simp only [List.map_cons, List.nodup_cons] at hn
    simp only [mget]
    cases h with
    | head => simp
    | tail _ h =>
      rw [if_neg ?_]
      · exact ih hn.2 h
      · intro e
        exact hn.1 (List.mem_map.2 ⟨(k, z), h, e⟩)
theorem isSome_iff_key {m : List (κ × β)} {k : κ} : (mget m k).isSome = true ↔ k ∈ m.map (·.1) := by
  constructor
  · intro h
    obtain ⟨z, hz⟩ := Option.isSome_iff_exists.1 h
    exact List.mem_map.2 ⟨_, mget_mem hz, rfl⟩
  · intro h
    obtain ⟨p, hp, e⟩ := List.mem_map.1 h
    cases hg : mget m k with
    | some z => rfl
    | none => exact absurd e (mget_none hg p hp)
theorem erase_entries {k : κ} (hinj : ∀ a b, fk a = fk b → a = b) : ∀ (es : List MapEntry) (m : List (κ × β)) (j : Nat) (e : MapEntry), es.map (fun e => (e.key, e.val)) = m.map (fun p => (fk p.1, fv p.2)) → (es.map (·.key)).Nodup → es[j]? = some e → e.key = fk k →
    (es.eraseIdx j).map (fun e => (e.key, e.val)) = (mdel m k).map (fun p => (fk p.1, fv p.2))
  | [], _, _, _, _, _, h, _ => by simp at h
  | x :: es, m, j, e, h, hn, hj, he => by
    match m, h with
    | (a, c) :: m, h =>
      simp only [List.map_cons, List.cons.injEq, Prod.mk.injEq] at h
      obtain ⟨⟨h1, h2⟩, h3⟩ := h
      simp only [List.map_cons, List.nodup_cons] at hn
      cases j with
      | zero =>
        simp only [List.getElem?_cons_zero, Option.some.injEq] at hj
        subst hj
        have hak : a = k := hinj _ _ (by rw [← h1, he])
        subst hak
        have hm : mdel ((a, c) :: m) a = m := by
          unfold mdel
          rw [List.filter_cons_of_neg (by simp)]
          apply List.filter_eq_self.2
          intro p hp
          simp only [decide_eq_true_eq]
          intro e
          apply hn.1
          have : (fk p.1, fv p.2) ∈ es.map (fun e => (e.key, e.val)) := by rw [h3]; exact List.mem_map.2 ⟨p, hp, rfl⟩
          obtain ⟨y, hy, hye⟩ := List.mem_map.1 this
          simp only [Prod.mk.injEq] at hye
          exact List.mem_map.2 ⟨y, hy, by rw [hye.1, e, h1]⟩
        rw [hm]
        simpa using h3
      | succ j =>
        simp only [List.getElem?_cons_succ] at hj
        have hak : a ≠ k := by
          intro q
          subst q
          apply hn.1
          rw [h1, ← he]
          exact List.mem_map.2 ⟨e, List.mem_of_getElem? hj, rfl⟩
        have hm : mdel ((a, c) :: m) k = (a, c) :: mdel m k := by
          unfold mdel
          rw [List.filter_cons_of_pos (by simp [hak])]
        rw [hm]
        simp only [List.eraseIdx_cons_succ, List.map_cons, h1, h2]
        rw [erase_entries hinj es m j e h3 hn.2 hj he]
/-! ### entries that are written in place -/
/-- the block b is a map that holds m; the entry of k was made at q -/
structure Mq (H : Heap) (fk : κ → Value) (fv : β → Value) (b : Nat) (m : List (κ × β)) (k : κ) (q : Int) : Prop where
  ex : ∃ es clock, H[b]? = some (.map es clock) ∧ Stamped es clock ∧ es.toList.map (fun e => (e.key, e.val)) = m.map (fun p => (fk p.1, fv p.2)) ∧ ∃ e ∈ es.toList, (e.born : Int) = q ∧ e.key = fk k
theorem Mq.mp {k : κ} {q : Int} (h : Mq H fk fv b m k q) : Mp H fk fv b m := by
  obtain ⟨es, clock, h1, h2, h3, _⟩ := h.ex
  exact ⟨⟨b, es, clock, rfl, rfl, h1, h2, h3⟩⟩
theorem Mq.lt {k : κ} {q : Int} (h : Mq H fk fv b m k q) : b < H.size := h.mp.lt
theorem Mq.up {k : κ} {q : Int} {H' : Heap} {S : Nat → Prop} (h : Mq H fk fv b m k q) (s : Mo S H H') (hS : ¬ S b) : Mq H' fk fv b m k q := by
  obtain ⟨es, clock, h1, h2⟩ := h.ex
  exact ⟨es, clock, by rw [s.same b h.lt hS]; exact h1, h2⟩
theorem Mq.nw {k : κ} {q : Int} {H' : Heap} (h : Mq H fk fv b m k q) (s : Nw H H') : Mq H' fk fv b m k q := h.up s (fun e => e)
theorem Mq.upL {k : κ} {q : Int} {H' : Heap} {ks : List Nat} (h : Mq H fk fv b m k q) (s : Mo (Ms ks) H H') (d : DL (b + 1) ks) : Mq H' fk fv b m k q := h.up s (fun h2 => d (b + 1) h2 b rfl rfl)
theorem Mp.le (h : Mp H fk fv b m) : b + 1 ≤ H.size := h.lt
/-! ### ranges over a map that is not turned -/
structure Mr (H : Heap) (fk : κ → Value) (fv : β → Value) (b : Nat) (m : List (κ × β)) (es : Array MapEntry) (clock : Nat) : Prop where
  at_ : H[b]? = some (.map es clock)
  st : Stamped es clock
  eq : es.toList.map (fun e => (e.key, e.val)) = m.map (fun p => (fk p.1, fv p.2))
theorem Mp.raw (h : Mp H fk fv b m) : ∃ es clock, Mr H fk fv b m es clock := by
  obtain ⟨r, es, clock, hv, h2, h3, h4, h5⟩ := h.mo.ex
  obtain rfl := h2
  exact ⟨es, clock, h3, h4, h5⟩
section
variable {es : Array MapEntry} {clock : Nat} {H' : Heap}
theorem Mr.mp (h : Mr H fk fv b m es clock) : Mp H fk fv b m := ⟨⟨b, es, clock, rfl, rfl, h.at_, h.st, h.eq⟩⟩
theorem Mr.lt (h : Mr H fk fv b m es clock) : b < H.size := h.mp.lt
theorem Mr.up {S : Nat → Prop} (h : Mr H fk fv b m es clock) (s : Mo S H H') (hS : ¬ S b) : Mr H' fk fv b m es clock := ⟨by rw [s.same b h.lt hS]; exact h.at_, h.st, h.eq⟩
theorem Mr.nw (h : Mr H fk fv b m es clock) (s : Nw H H') : Mr H' fk fv b m es clock := h.up s (fun e => e)
theorem Mr.upL {ks : List Nat} (h : Mr H fk fv b m es clock) (s : Mo (Ms ks) H H') (d : DL (b + 1) ks) : Mr H' fk fv b m es clock := h.up s (fun h2 => d (b + 1) h2 b rfl rfl)
theorem Mr.mo (h : Mr H fk fv b m es clock) : MapOf (fun x => x = b) H fk fv (.map (some b)) m := h.mp.mo
end
/-- the block b is an iterator over the map in block r; the keys dn have come -/
structure Itr (H : Heap) (b r : Nat) (fk : κ → Value) (es : Array MapEntry) (clock : Nat) (dn : List κ) : Prop where
  ex : ∃ vis : List MapEntry, H[b]? = some (.mapIter (some r) clock (vis.map (·.born)).toArray clock) ∧ (∀ e ∈ vis, e ∈ es.toList) ∧ vis.map (·.key) = dn.map fk
section
variable {es : Array MapEntry} {clock r : Nat} {H' : Heap} {dn : List κ}
theorem Itr.lt (h : Itr H b r fk es clock dn) : b < H.size := by
  obtain ⟨vis, h1, _⟩ := h.ex
  exact (Array.getElem?_eq_some_iff.1 h1).1
theorem Itr.up {S : Nat → Prop} (h : Itr H b r fk es clock dn) (s : Mo S H H') (hS : ¬ S b) : Itr H' b r fk es clock dn := by
  obtain ⟨vis, h1, h2⟩ := h.ex
  exact ⟨vis, by rw [s.same b h.lt hS]; exact h1, h2⟩
theorem Itr.nw (h : Itr H b r fk es clock dn) (s : Nw H H') : Itr H' b r fk es clock dn := h.up s (fun e => e)
theorem Itr.upL {ks : List Nat} (h : Itr H b r fk es clock dn) (s : Mo (Ms ks) H H') (d : DL (b + 1) ks) : Itr H' b r fk es clock dn := h.up s (fun h2 => d (b + 1) h2 b rfl rfl)
theorem Z.rangeA {t et : TypeId} {x : Operand} (h : Mr H fk fv b m es clock) (ho : o.op = .range t x) (hm : ∀ w, (underlying t).run P w = .ok (.map kt et) w) (hx : opv l x = some (.map (some b))) :
    Z P w0 n l H o (fun v H' => v = .pointer (some ⟨H.size, 0, none⟩) ∧ Itr H' H.size b fk es clock ([] : List κ) ∧ Nw H H' ∧ ∃ ob, H' = H.push ob) := by
  intro ac w hf ha
  have h3' : w.heap[b]? = some (.map es clock) := by rw [ha.heap]; exact h.at_
  refine ⟨.pointer (some ⟨w.heap.size, 0, none⟩), H.push (.mapIter (some b) clock #[] clock), w.alloc (.mapIter (some b) clock #[] clock), ?_, ha.alloc _, by rw [ha.heap], ⟨[], by simp, by simp, rfl⟩, Nw.pu _ _, _, rfl⟩
  simp [execOp, ho, hf.eval hx, Instr.range, hm, MapKept.run_getObj_map h3']
theorem Mr.le (h : Mr H fk fv b m es clock) : b + 1 ≤ H.size := h.lt
theorem Itr.le (h : Itr H b r fk es clock dn) : b + 1 ≤ H.size := h.lt
/-- what 'next' hands back -/
def nxt (q : Bool) (a c : Value) : Value := .tuple (if q then #[.bool true, a, c] else #[.bool false])
theorem Y.ext0 {x : Operand} {q : Bool} {a c : Value} (ho : o.op = .extract x 0) (hx : opv l x = some (nxt q a c)) : Y P w0 n l H o (.bool q) := by
  intro ac w hf ha
  cases q <;> simp [execOp, ho, hf.eval hx, nxt, Instr.extract]
theorem seen_mem (hinj : ∀ a b, fk a = fk b → a = b) {m : List (κ × β)} {vis : List MapEntry} (hs : Stamped es clock) (hv : ∀ e ∈ vis, e ∈ es.toList) (hd : vis.map (·.key) = dn.map fk) {e : MapEntry} (he : e ∈ es.toList) {a : κ} (ha : e.key = fk a) : e.born ∈ vis.map (·.born) ↔ a ∈ dn := by
  have uniqB : ∀ x ∈ es.toList, ∀ y ∈ es.toList, x.born = y.born → x = y := fun x hx y hy hb => nodup_inj hs.2.1 hx hy hb
  have uniqK : ∀ x ∈ es.toList, ∀ y ∈ es.toList, x.key = y.key → x = y := fun x hx y hy hb => nodup_inj hs.2.2 hx hy hb
  constructor
  · intro h
    obtain ⟨y, hy, hb⟩ := List.mem_map.1 h
    have := uniqB y (hv y hy) e he hb
    subst this
    have h2 : y.key ∈ dn.map fk := by rw [← hd]; exact List.mem_map.2 ⟨y, hy, rfl⟩
    obtain ⟨c, hc, hce⟩ := List.mem_map.1 h2
    rw [hinj _ _ (ha.symm.trans hce.symm)]
    exact hc
  · intro h
    have h2 : fk a ∈ vis.map (·.key) := by rw [hd]; exact List.mem_map.2 ⟨a, h, rfl⟩
    obtain ⟨y, hy, hk⟩ := List.mem_map.1 h2
    have := uniqK y (hv y hy) e he (hk.trans ha.symm)
    subst this
    exact List.mem_map.2 ⟨y, hy, rfl⟩
theorem Z.nextA {x : Operand} [Inhabited κ] [Inhabited β] (h : Itr H b r fk es clock dn) (hmr : Mr H fk fv r m es clock) (hinj : ∀ a b, fk a = fk b → a = b) (ho : o.op = .next x false) (hx : opv l x = some (.pointer (some ⟨b, 0, none⟩))) :
    Z P w0 n l H o (fun v H' => ∃ (q : Bool) (a : κ) (c : β) (dn' : List κ), v = nxt q (fk a) (fv c) ∧ Itr H' b r fk es clock dn' ∧ (q = true → (a, c) ∈ m ∧ a ∉ dn ∧ dn' = dn ++ [a]) ∧ (q = false → (∀ p ∈ m, p.1 ∈ dn) ∧ dn' = dn) ∧ Mo (fun g => g = b) H H') := by
  intro ac w hf ha
  obtain ⟨vis, h1, h2, h3⟩ := h.ex
  have h1' : w.heap[b]? = some (.mapIter (some r) clock (vis.map (·.born)).toArray clock) := by rw [ha.heap]; exact h1
  have hm' : w.heap[r]? = some (.map es clock) := by rw [ha.heap]; exact hmr.at_
  have hold : ∀ x ∈ es.toList, x.born < clock := hmr.st.1
  have hlt := h.lt
  have pairs : ∀ e ∈ es.toList, ∃ a c, (a, c) ∈ m ∧ e.key = fk a ∧ e.val = fv c := by
    intro e he
    have : (e.key, e.val) ∈ m.map (fun p => (fk p.1, fv p.2)) := by rw [← hmr.eq]; exact List.mem_map.2 ⟨e, he, rfl⟩
    obtain ⟨p, hp, hpe⟩ := List.mem_map.1 this
    simp only [Prod.mk.injEq] at hpe
    exact ⟨p.1, p.2, hp, hpe.1.symm, hpe.2.symm⟩
  rcases run_next_at (P := P) w o.type b r clock clock _ es clock h1' hm' hold (Nat.le_refl _) with ⟨hl, hr⟩ | ⟨e, he, w1, hw1, hr⟩
  · refine ⟨.tuple #[.bool false], H, w, by simp [execOp, ho, hf.eval hx, hr], ha, false, default, default, dn, rfl, h, by simp, fun _ => ⟨fun p hp => ?_, rfl⟩, Mo.refl _ _⟩
    have : (fk p.1, fv p.2) ∈ es.toList.map (fun e => (e.key, e.val)) := by rw [hmr.eq]; exact List.mem_map.2 ⟨p, hp, rfl⟩
    obtain ⟨e, he, hee⟩ := List.mem_map.1 this
    simp only [Prod.mk.injEq] at hee
    have hs := all_seen es _ hl e he
    refine (seen_mem (m := m) hinj hmr.st h2 h3 he hee.1).1 ?_
    simpa using hs
  · obtain ⟨hes, hns⟩ := mem_left he
    obtain ⟨a, c, hac, hk, hv⟩ := pairs e hes
    have hw1' : At w0 H w1 := by
      rcases hw1 with rfl | rfl
      · exact ha
      · exact ha.drew
    refine ⟨.tuple #[.bool true, e.key, e.val], H.setIfInBounds b (.mapIter (some r) clock ((vis.map (·.born)).toArray.push e.born) clock), _, by simp [execOp, ho, hf.eval hx, hr]; rfl, ?_, true, a, c, dn ++ [a], by rw [hk, hv]; rfl, ⟨vis ++ [e], ?_, ?_, ?_⟩, fun _ => ⟨hac, ?_, rfl⟩, by simp, mo_set _⟩
    · exact ⟨by simp [ChangeMaps.setBlock, hw1'.heap], hw1'.os, hw1'.tape, hw1'.output, hw1'.dr⟩
    · simp [hlt]
    · intro x hx
      rcases List.mem_append.1 hx with h | h
      · exact h2 x h
      · simp only [List.mem_singleton] at h; subst h; exact hes
    · simp [h3, hk]
    · intro had
      have := (seen_mem (m := m) hinj hmr.st h2 h3 hes hk).2 had
      simp at hns
      simp at this
      obtain ⟨x, hx, hxe⟩ := this
      exact hns x hx hxe
theorem Y.entryA {x : Operand} {a : κ} {c : β} (h : Itr H b r fk es clock (dn ++ [a])) (hmr : Mr H fk fv r m es clock) (hinj : ∀ a b, fk a = fk b → a = b) (hac : (a, c) ∈ m) (ho : o.op = .entry x) (hx : opv l x = some (.pointer (some ⟨b, 0, none⟩))) : Y P w0 n l H o (.tuple #[fk a, fv c]) := by
  intro ac w hf ha
  obtain ⟨vis, h1, h2, h3⟩ := h.ex
  have h1' : w.heap[b]? = some (.mapIter (some r) clock (vis.map (·.born)).toArray clock) := by rw [ha.heap]; exact h1
  have hm' : w.heap[r]? = some (.map es clock) := by rw [ha.heap]; exact hmr.at_
  have hne : vis ≠ [] := by intro e; subst e; simp at h3
  obtain ⟨e, he⟩ : ∃ e, vis.getLast? = some e := by
    rw [List.getLast?_eq_some_getLast hne]; exact ⟨_, rfl⟩
  have hev : e ∈ vis := List.mem_of_getLast? he
  have hek : e.key = fk a := by
    have := congrArg List.getLast? h3
    simpa [he] using this
  have hes := h2 e hev
  have hback : (vis.map (·.born)).toArray.back? = some e.born := by simp [he]
  have hfind : es.find? (fun x => x.born == e.born) = some e := by
    rw [← Array.find?_toList]
    obtain ⟨x, hx⟩ : ∃ x, es.toList.find? (fun x => x.born == e.born) = some x := by
      rw [← Option.isSome_iff_exists, List.find?_isSome]
      exact ⟨e, hes, by simp⟩
    have hxm := List.mem_of_find?_eq_some hx
    have hxb := List.find?_some hx
    simp only [beq_iff_eq] at hxb
    rw [hx, nodup_inj hmr.st.2.1 hxm hes hxb]
  have hval : e.val = fv c := by
    have : (fk a, fv c) ∈ es.toList.map (fun e => (e.key, e.val)) := by rw [hmr.eq]; exact List.mem_map.2 ⟨_, hac, rfl⟩
    obtain ⟨y, hy, hye⟩ := List.mem_map.1 this
    simp only [Prod.mk.injEq] at hye
    have := nodup_inj hmr.st.2.2 hy hes (hye.1.trans hek.symm)
    rw [← this]; exact hye.2
  simp [execOp, ho, hf.eval hx, Instr.entry, getObj, Sem.run, h1', hm', hback, hfind, hek, hval]
end
end

/-! ### errors that are numbers -/
section
variable {P : Program} {w0 : World} {n : Nat} {l : FL} {H : Heap} {o : Oper}
end

/-! ### a call through an interface -/
section
variable {P : Program} {w0 : World} {Q : Exit → Act → World → Prop} {n : Nat} {l : FL} {H : Heap} {ops : Array Oper} {rest : List Oper} {o : Oper}
end
section
variable {P : Program} {w0 : World} {Q : Exit → Act → World → Prop} {n k i : Nat} {dn : List Nat} {l : FL} {H : Heap} {ops : Array Oper} {o : Oper} {SH : Heap → Prop} {X : List Nat}
theorem LO.calld {R : Value → Heap → Prop} {d : Nat} {c : Operand} {cv : Value} {args : List Operand} {ats : Array TypeId} {vs : List Value} (hi : ops[i]? = some o) (ho : o.op = .call { callee := .value c, args := args.toArray, argTypes := ats })
    (hcv : opv l c = some cv) (hv : opvs l args = some vs) (hw : Wd ops l o) (hd : o.dst = some d) (hn : Nat.blt d n = true) (hc : Clo P w0 cv vs H R)
    (h : ∀ v H', R v H' → (X.contains i = true ∨ SH H') ∧ LH P w0 ops Q SH X n k (i :: dn) ((d, v) :: l) H') : LO P w0 ops Q SH X n k i dn l H := by
  intro a w hf ha
  obtain ⟨f, caps, rfl, hcall, hct⟩ := hc
  have hr : (execOp a.eval o).run P w = .ok (.enter f (vs.toArray ++ caps)) w := by
    have h2 := hf.evals hv
    have h3 : (args.toArray.map a.eval) = vs.toArray := by rw [List.map_toArray, h2]
    simp [execOp, ho, resolve, Deferred.ofValue, hf.eval hcv, invoke, hcall, h2]
  unfold wpOp
  simp only [hi]
  rw [if_pos (hw n a hf)]
  refine .inl ?_
  unfold Oper.wp
  rw [hr]
  show Calls P f (vs.toArray ++ caps) w _
  refine (hct w ha).mono ?_
  rintro e w' ⟨r, H', rfl, ha', hR⟩
  obtain ⟨h1, h2⟩ := h r H' hR
  have hp := hf.put hn r
  rw [← hd] at hp
  exact ⟨h1.imp id (fun h1 => ⟨H', ha', h1⟩), h2 _ w' hp ha'⟩
end
end Go.Proofs.YtdliddjkacbggaaDoor.E
