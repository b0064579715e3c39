/-
  Contracts of functions of the program, and plain laws: put together of several texts.
-/
import Derived.Test.YtdliddjkacbggaaGreatDoorGa
import Derived.Test.YtdliddjkacbggaaGreatDoorRows
import Derived.ProofKit
import Derived.OpenShut
import Derived.ShutString
import Derived.ChangeOld
import Derived.Below
import Derived.JoinedCond
import Derived.Deep.Slices
import Derived.ChangeSame
import Derived.Maps.RangeRun
import Derived.RangeFuncLeaves
import Derived.RangeFuncRecord
import Derived.RangeFuncSeq
import Derived.TacticsIn
/-
  One block of the sum, in memory.
-/
namespace Go.Proofs.YtdliddjkacbggaaGreatDoor.SumC
open Go.Proofs.YtdliddjkacbggaaGreatDoor.E Go.RowKit Go.Proofs.YtdliddjkacbggaaGreatDoor.SumA Go.Proofs.YtdliddjkacbggaaGreatDoor.SumB
set_option maxRecDepth 20000
set_option linter.unusedVariables false
set_option linter.unusedSimpArgs false
set_option linter.unusedSectionVars false

theorem map_get (w : List UInt32) (j : Nat) (h : j < w.length) : (w.map V32)[j]? = some (V32 (w.getD j 0)) := by simp [h]
theorem map_set (w : List UInt32) (j : Nat) (x : UInt32) : (w.map V32).set (0 + j) (V32 x) = (w.set j x).map V32 := by rw [Nat.zero_add, List.map_set]
theorem take_set_succ {α : Type} (w : List α) (j : Nat) (x : α) (h : j < w.length) : (w.set j x).take (j + 1) = w.take j ++ [x] := by
  rw [List.take_succ_eq_append_getElem (by simpa using h), List.take_set]; rw [List.set_eq_of_length_le (by simp; omega)]; simp
theorem getD_take (w : List UInt32) (j k : Nat) (h : j < k) : (w.take k).getD j 0 = w.getD j 0 := by
  simp [List.getD, List.getElem?_take, h]
theorem first16_succ (b : List UInt8) (n : Nat) : first16 b (n + 1) = first16 b n ++ [word4 (b.getD (4 * n) 0) (b.getD (4 * n + 1) 0) (b.getD (4 * n + 2) 0) (b.getD (4 * n + 3) 0)] := by
  unfold first16; rw [List.range_succ, List.map_append]; rfl
def nxt (w : List UInt32) (i : Nat) : UInt32 := w.getD (i - 16) 0 + (rotr (w.getD (i - 15) 0) 7 ^^^ rotr (w.getD (i - 15) 0) 18 ^^^ shrw_u32 (w.getD (i - 15) 0) 3) + w.getD (i - 7) 0 + (rotr (w.getD (i - 2) 0) 17 ^^^ rotr (w.getD (i - 2) 0) 19 ^^^ shrw_u32 (w.getD (i - 2) 0) 10)
theorem grow_take (w : List UInt32) (i : Nat) (h0 : 16 ≤ i) (h : i ≤ w.length) : grow (w.take i) = w.take i ++ [nxt w i] := by
  unfold grow nxt
  have hl : (w.take i).length = i := by simp; omega
  rw [hl, getD_take w (i - 16) i (by omega), getD_take w (i - 15) i (by omega), getD_take w (i - 7) i (by omega), getD_take w (i - 2) i (by omega)]
/-- the cells of a sum under way -/
abbrev hc (s : List UInt32) (wt : List UInt8) (n : Nat) (al : UInt64) : List Value := s.map V32 ++ wt.map V8 ++ [.int .i64 n, .int .u64 al.toNat]
theorem hc_len {s : List UInt32} {wt : List UInt8} {n : Nat} {al : UInt64} (hs : s.length = 8) (hw : wt.length = 64) : (hc s wt n al).length = 74 := by simp [hs, hw]
theorem hc_wait {s : List UInt32} {wt : List UInt8} {n : Nat} {al : UInt64} (hs : s.length = 8) (i : Nat) (x : UInt8) (h : wt[i]? = some x) : ((hc s wt n al).drop 8)[i]? = (fB x)[0]? ∧ (fB x).length = 1 := by
  refine ⟨?_, rfl⟩
  have hi := (List.getElem?_eq_some_iff.1 h).1
  have : (s.map V32).length = 8 := by simpa using hs
  rw [hc, List.append_assoc, List.drop_left' this, List.getElem?_append_left (by simpa using hi)]
  simp [h]
theorem hc_n {s : List UInt32} {wt : List UInt8} {n : Nat} {al : UInt64} (hs : s.length = 8) (hw : wt.length = 64) : (hc s wt n al)[72]? = some (.int .i64 n) := by
  rw [hc, List.getElem?_append_right (by simp [hs, hw])]; simp [hs, hw]
theorem hc_all {s : List UInt32} {wt : List UInt8} {n : Nat} {al : UInt64} (hs : s.length = 8) (hw : wt.length = 64) : (hc s wt n al)[73]? = some (.int .u64 al.toNat) := by
  rw [hc, List.getElem?_append_right (by simp [hs, hw])]; simp [hs, hw]
theorem hc_set_n {s : List UInt32} {wt : List UInt8} {n m : Nat} {al : UInt64} (hs : s.length = 8) (hw : wt.length = 64) : (hc s wt n al).set 72 (.int .i64 m) = hc s wt m al := by
  rw [hc, List.set_append_right _ _ (by simp [hs, hw])]; simp [hs, hw]
theorem hc_set_all {s : List UInt32} {wt : List UInt8} {n : Nat} {al be : UInt64} (hs : s.length = 8) (hw : wt.length = 64) : (hc s wt n al).set 73 (.int .u64 be.toNat) = hc s wt n be := by
  rw [hc, List.set_append_right _ _ (by simp [hs, hw])]; simp [hs, hw]
theorem hc_state {s : List UInt32} {wt : List UInt8} {n : Nat} {al : UInt64} (i : Nat) (hi : i < s.length) : (hc s wt n al)[i]? = some (V32 (s.getD i 0)) := by
  rw [hc, List.append_assoc, List.getElem?_append_left (by simpa using hi)]; simp [hi]
theorem hc_set_state {s : List UInt32} {wt : List UInt8} {n : Nat} {al : UInt64} (i : Nat) (hi : i < s.length) (x : UInt32) : (hc s wt n al).set (0 + i) (V32 x) = hc (s.set i x) wt n al := by
  rw [hc, List.append_assoc, List.set_append_left _ _ (by simpa using hi), Nat.zero_add, ← List.append_assoc, hc, List.map_set]
theorem word_at (wt : List UInt8) (i : Nat) (h : wt.length = 64) (hi : i < 16) (hl : 4 ≤ ((wt.take 64).drop (4 * i)).length) : word4 ((wt.take 64).drop (4 * i))[0] ((wt.take 64).drop (4 * i))[1] ((wt.take 64).drop (4 * i))[2] ((wt.take 64).drop (4 * i))[3] = word4 (wt.getD (4 * i) 0) (wt.getD (4 * i + 1) 0) (wt.getD (4 * i + 2) 0) (wt.getD (4 * i + 3) 0) := by
  have : ∀ j, j < 4 → ∀ (h2 : j < ((wt.take 64).drop (4 * i)).length), ((wt.take 64).drop (4 * i))[j] = wt.getD (4 * i + j) 0 := by
    intro j hj h2
    rw [List.getElem_drop, List.getElem_take]
    simp [List.getD, show 4 * i + j < wt.length by omega]
  rw [this 0 (by omega), this 1 (by omega), this 2 (by omega), this 3 (by omega)]; rfl


def addL (a b : List UInt32) (i : Nat) : List UInt32 := (List.zipWith (· + ·) (a.take i) (b.take i)) ++ a.drop i
theorem addL_len (a b : List UInt32) (i : Nat) (ha : a.length = 8) (hb : b.length = 8) (hi : i ≤ 8) : (addL a b i).length = 8 := by simp [addL, ha, hb]; omega
theorem addL_get (a b : List UInt32) (i : Nat) (ha : a.length = 8) (hb : b.length = 8) (hi : i < 8) : (addL a b i).getD i 0 = a.getD i 0 := by
  have hl : (List.zipWith (· + ·) (a.take i) (b.take i)).length = i := by simp [ha, hb]; omega
  simp only [addL, List.getD]
  rw [List.getElem?_append_right (by omega), hl, Nat.sub_self, List.getElem?_drop, Nat.add_zero]
theorem addL_succ (a b : List UInt32) (i : Nat) (ha : a.length = 8) (hb : b.length = 8) (hi : i < 8) : (addL a b i).set i (a.getD i 0 + b.getD i 0) = addL a b (i + 1) := by
  have hl : (List.zipWith (· + ·) (a.take i) (b.take i)).length = i := by simp [ha, hb]; omega
  unfold addL
  rw [List.set_append_right _ _ (by omega), hl, Nat.sub_self, List.drop_eq_getElem_cons (show i < a.length by omega), List.set_cons_zero, List.take_succ_eq_append_getElem (show i < a.length by omega), List.take_succ_eq_append_getElem (show i < b.length by omega), List.zipWith_append (by simp; omega), List.append_assoc]
  simp [List.getD, ha, hb, hi]

set_option maxHeartbeats 4000000 in
theorem block_ct (hb : Nat) (st : S8) (wt : List UInt8) (n : Nat) (al : UInt64) (w0 : World) (H0 : Heap)
    (hv : Var 211 H0 hb (hc st.list wt n al)) (hw : wt.length = 64) :
    Ct Tryz.prog w0 149 #[.pointer (some ⟨hb, 0, none⟩)] H0 (fun r H2 => r = .tuple #[] ∧ Var 211 H2 hb (hc (compress st wt).list wt 0 al) ∧ Mo (fun c => c = hb) H0 H2) := by
  refine Ct.enter (args := [.pointer (some ⟨hb, 0, none⟩)]) Tryz.func149 rfl rfl rfl ?_
  intro Q0 hret
  have hlt := hv.lt
  have hsl : st.list.length = 8 := rfl
  refine CW.seq (fun K1 hK1 hE1 => ?_)
  refine CW.region ?_
  refine LR.z (Z.allocv rfl Tryz.zeroValue186) (Wd.u rfl) rfl rfl (fun v2 H2 r2 => ?_)
  obtain ⟨rfl, va2, hs2, ob2, hH2⟩ := r2
  replace hv := hv.nw hs2
  replace va2 : Var 186 H2 H0.size ((List.replicate 64 (0 : UInt32)).map V32) := va2
  have hz2 : H2.size = H0.size + 1 := by rw [hH2]; simp
  refine LR.nil ?_
  refine hK1 _ _ ?_
  refine CW.seq (fun K2 hK2 hE2 => ?_)
  refine CW.seq (fun K3 hK3 hE3 => ?_)
  refine CW.region ?_
  refine LR.v (Y.move rfl rfl) (Wd.u rfl) rfl rfl ?_
  refine LR.nil ?_
  refine hK3 _ _ ?_
  refine CW.block (fun K4 hK4 hX4 hE4 => ?_)
  refine CW.loop (fun (s_ : (Nat) × (List UInt32)) => match s_ with | (i, w) => [(0, .pointer (some ⟨hb, 0, none⟩)), (2, .pointer (some ⟨H0.size, 0, none⟩)), (14, .int .i64 i)])
    (fun (s_ : (Nat) × (List UInt32)) (H : Heap) => match s_ with | (i, w) => i ≤ 16 ∧ w.length = 64 ∧ w.take i = first16 wt i ∧ Var 186 H H0.size (w.map V32) ∧ Mo (fun c => c = H0.size) H2 H)
    (fun (s_ : (Nat) × (List UInt32)) => match s_ with | (i, w) => 16 - i) (0, List.replicate 64 0) ⟨rfl, rfl, rfl, trivial⟩ ?_ ?_
  ·
    exact ⟨by omega, by simp, rfl, va2, Mo.refl _ _⟩
  rintro ⟨i, w⟩ H1 hI1 K5 hN5 hE5
  obtain ⟨hi, hwl, hwt, va2, hm⟩ := hI1
  replace hv := hv.up hm (by omega)
  refine CW.seq (fun K6 hK6 hE6 => ?_)
  refine CW.region ?_
  refine LR.v (Y.lss rfl rfl rfl) (Wd.u rfl) rfl rfl ?_
  refine LR.nil ?_
  refine hK6 _ _ ?_
  refine CW.seq (fun K7 hK7 hE7 => ?_)
  refine CW.condp rfl (fun c15 => ?_) (fun c15 => ?_)
  ·
    refine CW.skip ?_
    refine hK7 _ _ ?_
    refine CW.seq (fun K8 hK8 hE8 => ?_)
    refine CW.block (fun K9 hK9 hX9 hE9 => ?_)
    refine CW.seq (fun K10 hK10 hE10 => ?_)
    refine CW.region ?_
    refine LR.v (Y.move rfl rfl) (Wd.u rfl) rfl rfl ?_
    refine LR.v (Y.assign rfl rfl) (Wd.u rfl) rfl rfl ?_
    refine LR.nil ?_
    refine hK10 _ _ ?_
    refine CW.region ?_
    refine LR.v (Y.move rfl rfl) (Wd.u rfl) rfl rfl ?_
    refine LR.v (Y.move rfl rfl) (Wd.u rfl) rfl rfl ?_
    refine LR.v (Y.nilCheck rfl rfl) (Wd.u rfl) rfl rfl ?_
    refine LR.v (Y.fieldAddr hv.pt rfl Tryz.runUnderlying211 rfl rfl Tryz.sizeOf209 (by decide) rfl) (Wd.u rfl) rfl rfl ?_
    refine LR.v (Y.move rfl rfl) (Wd.u rfl) rfl rfl ?_
    refine LR.v (Y.muli rfl rfl rfl (by omega)) (Wd.u rfl) rfl rfl ?_
    refine LR.e (g := fun v => v) (Y.sliceArrE (F := fun c => c = hb) (f := fB) (xs := wt) (hv.pt.drop 8) rfl hv.lt (hw) (fun i x h => hc_wait hsl i x h) (4 * i) (64) rfl (fun w => .inl (Tryz.runUnderlying209 w)) Tryz.sizeOf5 rfl (.inr ⟨_, _, _, rfl, rfl, by first | rfl | omega⟩) (.inl ⟨rfl, rfl⟩) (by omega) (by omega) (by decide)) (Wd.u rfl) rfl rfl (fun v23 rd23 => ?_)
    -- call selvage/sum.word
    refine LR.call rfl Tryz.call158 rfl (Wd.u rfl) rfl rfl (word_ct _ _ w0 H1 rd23.any (by simp; omega)) (fun v24 H24 r24 => ?_)
    obtain ⟨rfl, rfl⟩ := r24
    rw [word_at wt i hw (by omega)]
    refine LR.v (Y.arrAddr va2.pt (i) rfl Tryz.runUnderlying186 Tryz.sizeOf185 rfl rfl (by first | rfl | omega) (by first | omega | (simp; omega) | (simp; done))) (Wd.u rfl) rfl rfl ?_
    refine LR.s (S.var1 va2 (0 + (i)) (_) rfl rfl rfl (rfl) Tryz.sizeOf185 (by simp; omega) (map_set w i _)) (Wd.u rfl) rfl (fun H4_9 r4_9 => ?_)
    obtain ⟨va2, hst⟩ := r4_9
    replace hv := hv.up hst (by omega)
    replace hm := hm.trans hst (fun _ _ e => e) (fun _ _ e => e)
    refine LR.nil ?_
    refine hK9 _ _ ?_
    refine hK8 _ _ ?_
    refine CW.region ?_
    refine LR.v (Y.addi rfl rfl rfl (by omega)) (Wd.u rfl) rfl rfl ?_
    refine LR.v (Y.move rfl rfl) (Wd.u rfl) rfl rfl ?_
    refine LR.nil ?_
    refine QN.sub (hN5 (i + 1, w.set i (word4 (wt.getD (4 * i) 0) (wt.getD (4 * i + 1) 0) (wt.getD (4 * i + 2) 0) (wt.getD (4 * i + 3) 0))) _ ?_ ?_) ⟨rfl, rfl, (iv (by omega)), trivial⟩
    · exact ⟨by omega, by simp [hwl], by rw [take_set_succ _ _ _ (by omega), first16_succ, hwt], va2, hm⟩
    · show 16 - (i + 1) < 16 - i; omega
  ·
    have hi16 : i = 16 := by omega
    subst hi16
    refine CW.exit (hE7 (.exit 0) nofun _ _ (hE5 (.exit 0) nofun _ _ (hX4 _ _ ?_)))
    refine hK2 _ _ ?_
    refine CW.seq (fun K11 hK11 hE11 => ?_)
    refine CW.seq (fun K12 hK12 hE12 => ?_)
    refine CW.region ?_
    refine LR.v (Y.assign rfl rfl) (Wd.u rfl) rfl rfl ?_
    refine LR.nil ?_
    refine hK12 _ _ ?_
    refine CW.block (fun K13 hK13 hX13 hE13 => ?_)
    refine CW.loop (fun (s_ : (Nat) × (List UInt32)) => match s_ with | (i, w) => [(0, .pointer (some ⟨hb, 0, none⟩)), (2, .pointer (some ⟨H0.size, 0, none⟩)), (4, .int .i64 i)])
      (fun (s_ : (Nat) × (List UInt32)) (H : Heap) => match s_ with | (i, w) => 16 ≤ i ∧ i ≤ 64 ∧ w.length = 64 ∧ w.take i = schedL (first16 wt 16) (i - 16) ∧ Var 186 H H0.size (w.map V32) ∧ Mo (fun c => c = H0.size) H1 H)
      (fun (s_ : (Nat) × (List UInt32)) => match s_ with | (i, w) => 64 - i) (16, w) ⟨rfl, rfl, rfl, trivial⟩ ?_ ?_
    ·
      exact ⟨by omega, by omega, hwl, hwt, va2, Mo.refl _ _⟩
    rintro ⟨i, w⟩ HL2 hI2 K14 hN14 hE14
    obtain ⟨hi0, hi, hwl, hwt, va2, hm2⟩ := hI2
    replace hv := hv.up hm2 (by omega)
    refine CW.seq (fun K15 hK15 hE15 => ?_)
    refine CW.seq (fun K16 hK16 hE16 => ?_)
    refine CW.region ?_
    refine LR.v (Y.move rfl rfl) (Wd.u rfl) rfl rfl ?_
    refine LR.v (Y.lss rfl rfl rfl) (Wd.u rfl) rfl rfl ?_
    refine LR.nil ?_
    refine hK16 _ _ ?_
    refine CW.condp rfl (fun c28 => ?_) (fun c28 => ?_)
    ·
      refine CW.skip ?_
      refine hK15 _ _ ?_
      refine CW.seq (fun K17 hK17 hE17 => ?_)
      refine CW.block (fun K18 hK18 hX18 hE18 => ?_)
      refine CW.seq (fun K19 hK19 hE19 => ?_)
      refine CW.region_draw rfl (by kernel_rfl) ?_
      refine LR.v (Y.move rfl rfl) (Wd.u rfl) rfl rfl ?_
      refine LR.v (Y.subi rfl rfl rfl (by omega)) (Wd.u rfl) rfl rfl ?_
      refine LR.v (Y.arrAddr va2.pt (i - 15) rfl Tryz.runUnderlying186 Tryz.sizeOf185 rfl rfl (by omega) (by first | omega | (simp; omega) | (simp; done))) (Wd.u rfl) rfl rfl ?_
      refine LR.v (Y.load1 (va2.pt.at (i - 15) (map_get w (i - 15) (by omega))) rfl Tryz.isAgg185 rfl) (Wd.u rfl) rfl rfl ?_
      refine LR.v (Y.move rfl rfl) (Wd.u rfl) rfl rfl ?_
      refine LR.v (Y.subi rfl rfl rfl (by omega)) (Wd.u rfl) rfl rfl ?_
      refine LR.v (Y.arrAddr va2.pt (i - 2) rfl Tryz.runUnderlying186 Tryz.sizeOf185 rfl rfl (by omega) (by first | omega | (simp; omega) | (simp; done))) (Wd.u rfl) rfl rfl ?_
      refine LR.v (Y.load1 (va2.pt.at (i - 2) (map_get w (i - 2) (by omega))) rfl Tryz.isAgg185 rfl) (Wd.u rfl) rfl rfl ?_
      refine LR.v (Y.assign rfl rfl) (Wd.u rfl) rfl rfl ?_
      refine LR.v (Y.assign rfl rfl) (Wd.u rfl) rfl rfl ?_
      refine LR.nil ?_
      refine hK19 _ _ ?_
      refine CW.region_any (fun Hq => Nw HL2 Hq) [29] rfl ?_
      have hqs := Nw.refl HL2
      refine LH.take 0 (by kernel_rfl) rfl (by kernel_rfl) (by kernel_rfl) (by kernel_rfl) (fun Hq hq => Y.move rfl rfl) (Wd.u rfl) rfl rfl hqs ?_
      refine LH.take 1 (by kernel_rfl) rfl (by kernel_rfl) (by kernel_rfl) (by kernel_rfl) (fun Hq hq => Y.move rfl rfl) (Wd.u rfl) rfl rfl hqs ?_
      refine LH.take 2 (by kernel_rfl) rfl (by kernel_rfl) (by kernel_rfl) (by kernel_rfl) (fun Hq hq => Y.subi rfl rfl rfl (by omega)) (Wd.u rfl) rfl rfl hqs ?_
      refine LH.take 3 (by kernel_rfl) rfl (by kernel_rfl) (by kernel_rfl) (by kernel_rfl) (fun Hq hq => Y.arrAddr (va2.pt.nw hq) (i - 16) rfl Tryz.runUnderlying186 Tryz.sizeOf185 rfl rfl (by omega) (by first | omega | (simp; omega) | (simp; done))) (Wd.u rfl) rfl rfl hqs ?_
      refine LH.take 4 (by kernel_rfl) rfl (by kernel_rfl) (by kernel_rfl) (by kernel_rfl) (fun Hq hq => Y.load1 ((va2.pt.at (i - 16) (map_get w (i - 16) (by omega))).nw hq) rfl Tryz.isAgg185 rfl) (Wd.u rfl) rfl rfl hqs ?_
      refine LH.take 5 (by kernel_rfl) rfl (by kernel_rfl) (by kernel_rfl) (by kernel_rfl) (fun Hq hq => Y.move rfl rfl) (Wd.u rfl) rfl rfl hqs ?_
      refine LH.take 7 (by kernel_rfl) rfl (by kernel_rfl) (by kernel_rfl) (by kernel_rfl) (fun Hq hq => Y.move rfl rfl) (Wd.u rfl) rfl rfl hqs ?_
      refine LH.take 10 (by kernel_rfl) rfl (by kernel_rfl) (by kernel_rfl) (by kernel_rfl) (fun Hq hq => Y.move rfl rfl) (Wd.u rfl) rfl rfl hqs ?_
      refine LH.take 11 (by kernel_rfl) rfl (by kernel_rfl) (by kernel_rfl) (by kernel_rfl) (fun Hq hq => Y.shr_u32 (3) rfl rfl rfl (by first | rfl | omega) (by omega)) (Wd.u rfl) rfl rfl hqs ?_
      refine LH.take 14 (by kernel_rfl) rfl (by kernel_rfl) (by kernel_rfl) (by kernel_rfl) (fun Hq hq => Y.move rfl rfl) (Wd.u rfl) rfl rfl hqs ?_
      refine LH.take 15 (by kernel_rfl) rfl (by kernel_rfl) (by kernel_rfl) (by kernel_rfl) (fun Hq hq => Y.subi rfl rfl rfl (by omega)) (Wd.u rfl) rfl rfl hqs ?_
      refine LH.take 16 (by kernel_rfl) rfl (by kernel_rfl) (by kernel_rfl) (by kernel_rfl) (fun Hq hq => Y.arrAddr (va2.pt.nw hq) (i - 7) rfl Tryz.runUnderlying186 Tryz.sizeOf185 rfl rfl (by omega) (by first | omega | (simp; omega) | (simp; done))) (Wd.u rfl) rfl rfl hqs ?_
      refine LH.take 17 (by kernel_rfl) rfl (by kernel_rfl) (by kernel_rfl) (by kernel_rfl) (fun Hq hq => Y.load1 ((va2.pt.at (i - 7) (map_get w (i - 7) (by omega))).nw hq) rfl Tryz.isAgg185 rfl) (Wd.u rfl) rfl rfl hqs ?_
      refine LH.take 19 (by kernel_rfl) rfl (by kernel_rfl) (by kernel_rfl) (by kernel_rfl) (fun Hq hq => Y.move rfl rfl) (Wd.u rfl) rfl rfl hqs ?_
      refine LH.take 21 (by kernel_rfl) rfl (by kernel_rfl) (by kernel_rfl) (by kernel_rfl) (fun Hq hq => Y.move rfl rfl) (Wd.u rfl) rfl rfl hqs ?_
      refine LH.take 24 (by kernel_rfl) rfl (by kernel_rfl) (by kernel_rfl) (by kernel_rfl) (fun Hq hq => Y.move rfl rfl) (Wd.u rfl) rfl rfl hqs ?_
      refine LH.take 25 (by kernel_rfl) rfl (by kernel_rfl) (by kernel_rfl) (by kernel_rfl) (fun Hq hq => Y.shr_u32 (10) rfl rfl rfl (by first | rfl | omega) (by omega)) (Wd.u rfl) rfl rfl hqs ?_
      refine LH.one (i := 6) (by kernel_rfl) ?_
      -- call selvage/sum.turn
      refine LO.call rfl rfl Tryz.call159 rfl (Wd.u rfl) rfl rfl (turn_ct _ 7 w0 _ (by omega) (by omega)) (fun v45 H45 r45 => ?_)
      obtain ⟨rfl, rfl⟩ := r45
      have hs45 := Nw.refl H45
      have hq45 := hqs.tr hs45
      refine ⟨.inr hq45, ?_⟩
      refine LH.one (i := 8) (by kernel_rfl) ?_
      -- call selvage/sum.turn
      refine LO.call rfl rfl Tryz.call159 rfl (Wd.u rfl) rfl rfl (turn_ct _ 18 w0 _ (by omega) (by omega)) (fun v47 H47 r47 => ?_)
      obtain ⟨rfl, rfl⟩ := r47
      have hs47 := Nw.refl H47
      have hq47 := hq45.tr hs47
      refine ⟨.inr hq47, ?_⟩
      refine LH.take 9 (by kernel_rfl) rfl (by kernel_rfl) (by kernel_rfl) (by kernel_rfl) (fun Hq hq => Y.xor_u32 rfl rfl rfl) (Wd.u rfl) rfl rfl hq47 ?_
      refine LH.take 12 (by kernel_rfl) rfl (by kernel_rfl) (by kernel_rfl) (by kernel_rfl) (fun Hq hq => Y.xor_u32 rfl rfl rfl) (Wd.u rfl) rfl rfl hq47 ?_
      refine LH.take 13 (by kernel_rfl) rfl (by kernel_rfl) (by kernel_rfl) (by kernel_rfl) (fun Hq hq => Y.add_u32 rfl rfl rfl) (Wd.u rfl) rfl rfl hq47 ?_
      refine LH.take 18 (by kernel_rfl) rfl (by kernel_rfl) (by kernel_rfl) (by kernel_rfl) (fun Hq hq => Y.add_u32 rfl rfl rfl) (Wd.u rfl) rfl rfl hq47 ?_
      refine LH.one (i := 20) (by kernel_rfl) ?_
      -- call selvage/sum.turn
      refine LO.call rfl rfl Tryz.call159 rfl (Wd.u rfl) rfl rfl (turn_ct _ 17 w0 _ (by omega) (by omega)) (fun v59 H59 r59 => ?_)
      obtain ⟨rfl, rfl⟩ := r59
      have hs59 := Nw.refl H59
      have hq59 := hq47.tr hs59
      refine ⟨.inr hq59, ?_⟩
      refine LH.one (i := 22) (by kernel_rfl) ?_
      -- call selvage/sum.turn
      refine LO.call rfl rfl Tryz.call159 rfl (Wd.u rfl) rfl rfl (turn_ct _ 19 w0 _ (by omega) (by omega)) (fun v61 H61 r61 => ?_)
      obtain ⟨rfl, rfl⟩ := r61
      have hs61 := Nw.refl H61
      have hq61 := hq59.tr hs61
      refine ⟨.inr hq61, ?_⟩
      refine LH.take 23 (by kernel_rfl) rfl (by kernel_rfl) (by kernel_rfl) (by kernel_rfl) (fun Hq hq => Y.xor_u32 rfl rfl rfl) (Wd.u rfl) rfl rfl hq61 ?_
      refine LH.take 26 (by kernel_rfl) rfl (by kernel_rfl) (by kernel_rfl) (by kernel_rfl) (fun Hq hq => Y.xor_u32 rfl rfl rfl) (Wd.u rfl) rfl rfl hq61 ?_
      refine LH.take 27 (by kernel_rfl) rfl (by kernel_rfl) (by kernel_rfl) (by kernel_rfl) (fun Hq hq => Y.add_u32 rfl rfl rfl) (Wd.u rfl) rfl rfl hq61 ?_
      refine LH.take 28 (by kernel_rfl) rfl (by kernel_rfl) (by kernel_rfl) (by kernel_rfl) (fun Hq hq => Y.arrAddr (va2.pt.nw hq) (i) rfl Tryz.runUnderlying186 Tryz.sizeOf185 rfl rfl (by first | rfl | omega) (by first | omega | (simp; omega) | (simp; done))) (Wd.u rfl) rfl rfl hq61 ?_
      refine LH.one (i := 29) (by kernel_rfl) ?_
      refine LO.s rfl (S.var1 va2 (0 + (i)) (_) rfl rfl rfl (rfl) Tryz.sizeOf185 (by simp; omega) (map_set w i _)) (Wd.u rfl) rfl (fun H10_29 r10_29 => ?_)
      obtain ⟨va2, hst⟩ := r10_29
      refine ⟨.inl rfl, ?_⟩
      refine LH.done (by kernel_rfl) ?_
      have hqe := hq61
      refine hK18 _ _ ?_
      refine hK17 _ _ ?_
      refine CW.region ?_
      refine LR.v (Y.move rfl rfl) (Wd.u rfl) rfl rfl ?_
      refine LR.v (Y.addi rfl rfl rfl (by omega)) (Wd.u rfl) rfl rfl ?_
      refine LR.v (Y.assign rfl rfl) (Wd.u rfl) rfl rfl ?_
      refine LR.nil ?_
      refine QN.sub (hN14 (i + 1, w.set i (nxt w i)) _ ?_ ?_) ⟨rfl, rfl, (iv (by omega)), trivial⟩
      · exact ⟨by omega, by omega, by simp [hwl], by rw [take_set_succ _ _ _ (by omega), hwt, show i + 1 - 16 = (i - 16) + 1 by omega, schedL, ← hwt, grow_take w i hi0 (by omega)], va2, hm2.trans hst (fun _ _ e => e) (fun _ _ e => e)⟩
      · show 64 - (i + 1) < 64 - i; omega
    ·
      have hi64 : i = 64 := by omega
      subst hi64
      rw [List.take_of_length_le (by omega)] at hwt
      refine CW.exit (hE15 (.exit 2) nofun _ _ (hE14 (.exit 2) nofun _ _ (hX13 _ _ ?_)))
      refine hK11 _ _ ?_
      refine CW.seq (fun K20 hK20 hE20 => ?_)
      refine CW.region ?_
      refine LR.v (Y.move rfl rfl) (Wd.u rfl) rfl rfl ?_
      refine LR.v (Y.nilCheck rfl rfl) (Wd.u rfl) rfl rfl ?_
      refine LR.v (Y.fieldAddr hv.pt rfl Tryz.runUnderlying211 rfl rfl Tryz.sizeOf187 (by decide) rfl) (Wd.u rfl) rfl rfl ?_
      refine LR.v (Y.loadN (hv.pt.take 8) rfl Tryz.isAgg187 Tryz.sizeOf187 (rfl) rfl) (Wd.u rfl) rfl rfl ?_
      have hlt2 := va2.lt
      refine LR.z (Z.allocv rfl Tryz.zeroValue187) (Wd.u rfl) rfl rfl (fun v7 H7 r7 => ?_)
      obtain ⟨rfl, va7, hs7, ob7, hH7⟩ := r7
      replace hv := hv.nw hs7
      replace va2 := va2.nw hs7
      refine LR.s (S.var va7 (st.cells) (st.cells) rfl rfl rfl rfl (by simp [Value.oneCell']) Tryz.sizeOf187 (rfl) (Nat.le_of_ble_eq_true rfl) (rfl)) (Wd.u rfl) rfl (fun H11_5 r11_5 => ?_)
      obtain ⟨va7, hs11⟩ := r11_5
      replace hv := hv.up hs11 (by omega)
      replace va2 := va2.up hs11 (by omega)
      refine LR.nil ?_
      refine hK20 _ _ ?_
      refine CW.seq (fun K21 hK21 hE21 => ?_)
      refine CW.seq (fun K22 hK22 hE22 => ?_)
      refine CW.region ?_
      -- call selvage/sum.rounds
      refine LR.call rfl Tryz.call160 rfl (Wd.u rfl) rfl rfl (rounds_ct w0 _) (fun v72 H72 r72 => ?_)
      obtain ⟨rfl, hs72⟩ := r72
      replace hv := hv.nw hs72
      replace va2 := va2.nw hs72
      replace va7 := va7.nw hs72
      refine LR.v (Y.move rfl rfl) (Wd.u rfl) rfl rfl ?_
      refine LR.nil ?_
      refine hK22 _ _ ?_
      refine CW.block (fun K23 hK23 hX23 hE23 => ?_)
      refine CW.loop (fun (s_ : (Nat) × (S8)) => match s_ with | (i, q) => [(0, .pointer (some ⟨hb, 0, none⟩)), (2, .pointer (some ⟨H0.size, 0, none⟩)), (7, .pointer (some ⟨HL2.size, 0, none⟩)), (72, .agg (KS.map V32).toArray), (73, .int .i64 i)])
        (fun (s_ : (Nat) × (S8)) (H : Heap) => match s_ with | (i, q) => i ≤ 64 ∧ q = rndN st w i ∧ Var 187 H HL2.size q.cells ∧ Mo (fun c => c = HL2.size) H72 H)
        (fun (s_ : (Nat) × (S8)) => match s_ with | (i, q) => 64 - i) (0, st) ⟨rfl, rfl, rfl, rfl, rfl, trivial⟩ ?_ ?_
      ·
        exact ⟨by omega, rfl, va7, Mo.refl _ _⟩
      rintro ⟨i, q⟩ HL3 hI3 K24 hN24 hE24
      obtain ⟨hi3, hq3, va7, hm3⟩ := hI3
      replace hv := hv.up hm3 (by omega)
      replace va2 := va2.up hm3 (by omega)
      refine CW.seq (fun K25 hK25 hE25 => ?_)
      refine CW.region ?_
      refine LR.v (Y.lss rfl rfl rfl) (Wd.u rfl) rfl rfl ?_
      refine LR.nil ?_
      refine hK25 _ _ ?_
      refine CW.seq (fun K26 hK26 hE26 => ?_)
      refine CW.condp rfl (fun c74 => ?_) (fun c74 => ?_)
      ·
        refine CW.skip ?_
        refine hK26 _ _ ?_
        refine CW.seq (fun K27 hK27 hE27 => ?_)
        refine CW.block (fun K28 hK28 hX28 hE28 => ?_)
        refine CW.seq (fun K29 hK29 hE29 => ?_)
        refine CW.region ?_
        refine LR.v (Y.move rfl rfl) (Wd.u rfl) rfl rfl ?_
        refine LR.v (Y.arrIndex (i) rfl Tryz.runUnderlying186 Tryz.sizeOf185 Tryz.isAgg185 rfl rfl (by first | rfl | omega) (by omega) (by rw [List.getElem?_toArray]; exact map_get KS i (by simp [KS]; omega))) (Wd.u rfl) rfl rfl ?_
        refine LR.v (Y.assign rfl rfl) (Wd.u rfl) rfl rfl ?_
        refine LR.v (Y.assign rfl rfl) (Wd.u rfl) rfl rfl ?_
        refine LR.nil ?_
        refine hK29 _ _ ?_
        refine CW.seq (fun K30 hK30 hE30 => ?_)
        refine CW.region_any (fun Hq => Nw HL3 Hq) [] rfl ?_
        have hqs := Nw.refl HL3
        refine LH.take 0 (by kernel_rfl) rfl (by kernel_rfl) (by kernel_rfl) (by kernel_rfl) (fun Hq hq => Y.arrAddr (va7.pt.nw hq) (7) rfl Tryz.runUnderlying187 Tryz.sizeOf185 rfl rfl (by first | rfl | omega) (by first | omega | (simp; omega) | (simp; done))) (Wd.u rfl) rfl rfl hqs ?_
        refine LH.take 1 (by kernel_rfl) rfl (by kernel_rfl) (by kernel_rfl) (by kernel_rfl) (fun Hq hq => Y.load1 ((va7.pt.drop 7).nw hq) rfl Tryz.isAgg185 rfl) (Wd.u rfl) rfl rfl hqs ?_
        refine LH.take 2 (by kernel_rfl) rfl (by kernel_rfl) (by kernel_rfl) (by kernel_rfl) (fun Hq hq => Y.arrAddr (va7.pt.nw hq) (4) rfl Tryz.runUnderlying187 Tryz.sizeOf185 rfl rfl (by first | rfl | omega) (by first | omega | (simp; omega) | (simp; done))) (Wd.u rfl) rfl rfl hqs ?_
        refine LH.take 3 (by kernel_rfl) rfl (by kernel_rfl) (by kernel_rfl) (by kernel_rfl) (fun Hq hq => Y.load1 ((va7.pt.drop 4).nw hq) rfl Tryz.isAgg185 rfl) (Wd.u rfl) rfl rfl hqs ?_
        refine LH.take 5 (by kernel_rfl) rfl (by kernel_rfl) (by kernel_rfl) (by kernel_rfl) (fun Hq hq => Y.arrAddr (va7.pt.nw hq) (4) rfl Tryz.runUnderlying187 Tryz.sizeOf185 rfl rfl (by first | rfl | omega) (by first | omega | (simp; omega) | (simp; done))) (Wd.u rfl) rfl rfl hqs ?_
        refine LH.take 6 (by kernel_rfl) rfl (by kernel_rfl) (by kernel_rfl) (by kernel_rfl) (fun Hq hq => Y.load1 ((va7.pt.drop 4).nw hq) rfl Tryz.isAgg185 rfl) (Wd.u rfl) rfl rfl hqs ?_
        refine LH.take 9 (by kernel_rfl) rfl (by kernel_rfl) (by kernel_rfl) (by kernel_rfl) (fun Hq hq => Y.arrAddr (va7.pt.nw hq) (4) rfl Tryz.runUnderlying187 Tryz.sizeOf185 rfl rfl (by first | rfl | omega) (by first | omega | (simp; omega) | (simp; done))) (Wd.u rfl) rfl rfl hqs ?_
        refine LH.take 10 (by kernel_rfl) rfl (by kernel_rfl) (by kernel_rfl) (by kernel_rfl) (fun Hq hq => Y.load1 ((va7.pt.drop 4).nw hq) rfl Tryz.isAgg185 rfl) (Wd.u rfl) rfl rfl hqs ?_
        refine LH.take 14 (by kernel_rfl) rfl (by kernel_rfl) (by kernel_rfl) (by kernel_rfl) (fun Hq hq => Y.arrAddr (va7.pt.nw hq) (4) rfl Tryz.runUnderlying187 Tryz.sizeOf185 rfl rfl (by first | rfl | omega) (by first | omega | (simp; omega) | (simp; done))) (Wd.u rfl) rfl rfl hqs ?_
        refine LH.take 15 (by kernel_rfl) rfl (by kernel_rfl) (by kernel_rfl) (by kernel_rfl) (fun Hq hq => Y.load1 ((va7.pt.drop 4).nw hq) rfl Tryz.isAgg185 rfl) (Wd.u rfl) rfl rfl hqs ?_
        refine LH.take 16 (by kernel_rfl) rfl (by kernel_rfl) (by kernel_rfl) (by kernel_rfl) (fun Hq hq => Y.arrAddr (va7.pt.nw hq) (5) rfl Tryz.runUnderlying187 Tryz.sizeOf185 rfl rfl (by first | rfl | omega) (by first | omega | (simp; omega) | (simp; done))) (Wd.u rfl) rfl rfl hqs ?_
        refine LH.take 17 (by kernel_rfl) rfl (by kernel_rfl) (by kernel_rfl) (by kernel_rfl) (fun Hq hq => Y.load1 ((va7.pt.drop 5).nw hq) rfl Tryz.isAgg185 rfl) (Wd.u rfl) rfl rfl hqs ?_
        refine LH.take 18 (by kernel_rfl) rfl (by kernel_rfl) (by kernel_rfl) (by kernel_rfl) (fun Hq hq => Y.and_u32 rfl rfl rfl) (Wd.u rfl) rfl rfl hqs ?_
        refine LH.take 19 (by kernel_rfl) rfl (by kernel_rfl) (by kernel_rfl) (by kernel_rfl) (fun Hq hq => Y.arrAddr (va7.pt.nw hq) (4) rfl Tryz.runUnderlying187 Tryz.sizeOf185 rfl rfl (by first | rfl | omega) (by first | omega | (simp; omega) | (simp; done))) (Wd.u rfl) rfl rfl hqs ?_
        refine LH.take 20 (by kernel_rfl) rfl (by kernel_rfl) (by kernel_rfl) (by kernel_rfl) (fun Hq hq => Y.load1 ((va7.pt.drop 4).nw hq) rfl Tryz.isAgg185 rfl) (Wd.u rfl) rfl rfl hqs ?_
        refine LH.take 21 (by kernel_rfl) rfl (by kernel_rfl) (by kernel_rfl) (by kernel_rfl) (fun Hq hq => Y.not_u32 rfl rfl) (Wd.u rfl) rfl rfl hqs ?_
        refine LH.take 22 (by kernel_rfl) rfl (by kernel_rfl) (by kernel_rfl) (by kernel_rfl) (fun Hq hq => Y.arrAddr (va7.pt.nw hq) (6) rfl Tryz.runUnderlying187 Tryz.sizeOf185 rfl rfl (by first | rfl | omega) (by first | omega | (simp; omega) | (simp; done))) (Wd.u rfl) rfl rfl hqs ?_
        refine LH.take 23 (by kernel_rfl) rfl (by kernel_rfl) (by kernel_rfl) (by kernel_rfl) (fun Hq hq => Y.load1 ((va7.pt.drop 6).nw hq) rfl Tryz.isAgg185 rfl) (Wd.u rfl) rfl rfl hqs ?_
        refine LH.take 24 (by kernel_rfl) rfl (by kernel_rfl) (by kernel_rfl) (by kernel_rfl) (fun Hq hq => Y.and_u32 rfl rfl rfl) (Wd.u rfl) rfl rfl hqs ?_
        refine LH.take 25 (by kernel_rfl) rfl (by kernel_rfl) (by kernel_rfl) (by kernel_rfl) (fun Hq hq => Y.xor_u32 rfl rfl rfl) (Wd.u rfl) rfl rfl hqs ?_
        refine LH.take 27 (by kernel_rfl) rfl (by kernel_rfl) (by kernel_rfl) (by kernel_rfl) (fun Hq hq => Y.move rfl rfl) (Wd.u rfl) rfl rfl hqs ?_
        refine LH.take 29 (by kernel_rfl) rfl (by kernel_rfl) (by kernel_rfl) (by kernel_rfl) (fun Hq hq => Y.move rfl rfl) (Wd.u rfl) rfl rfl hqs ?_
        refine LH.take 30 (by kernel_rfl) rfl (by kernel_rfl) (by kernel_rfl) (by kernel_rfl) (fun Hq hq => Y.arrAddr (va2.pt.nw hq) (i) rfl Tryz.runUnderlying186 Tryz.sizeOf185 rfl rfl (by first | rfl | omega) (by first | omega | (simp; omega) | (simp; done))) (Wd.u rfl) rfl rfl hqs ?_
        refine LH.take 31 (by kernel_rfl) rfl (by kernel_rfl) (by kernel_rfl) (by kernel_rfl) (fun Hq hq => Y.load1 ((va2.pt.at (i) (map_get w i (by omega))).nw hq) rfl Tryz.isAgg185 rfl) (Wd.u rfl) rfl rfl hqs ?_
        refine LH.one (i := 4) (by kernel_rfl) ?_
        -- call selvage/sum.turn
        refine LO.call rfl rfl Tryz.call159 rfl (Wd.u rfl) rfl rfl (turn_ct _ 6 w0 _ (by omega) (by omega)) (fun v81 H81 r81 => ?_)
        obtain ⟨rfl, rfl⟩ := r81
        have hs81 := Nw.refl H81
        have hq81 := hqs.tr hs81
        refine ⟨.inr hq81, ?_⟩
        refine LH.one (i := 7) (by kernel_rfl) ?_
        -- call selvage/sum.turn
        refine LO.call rfl rfl Tryz.call159 rfl (Wd.u rfl) rfl rfl (turn_ct _ 11 w0 _ (by omega) (by omega)) (fun v84 H84 r84 => ?_)
        obtain ⟨rfl, rfl⟩ := r84
        have hs84 := Nw.refl H84
        have hq84 := hq81.tr hs84
        refine ⟨.inr hq84, ?_⟩
        refine LH.take 8 (by kernel_rfl) rfl (by kernel_rfl) (by kernel_rfl) (by kernel_rfl) (fun Hq hq => Y.xor_u32 rfl rfl rfl) (Wd.u rfl) rfl rfl hq84 ?_
        refine LH.one (i := 11) (by kernel_rfl) ?_
        -- call selvage/sum.turn
        refine LO.call rfl rfl Tryz.call159 rfl (Wd.u rfl) rfl rfl (turn_ct _ 25 w0 _ (by omega) (by omega)) (fun v88 H88 r88 => ?_)
        obtain ⟨rfl, rfl⟩ := r88
        have hs88 := Nw.refl H88
        have hq88 := hq84.tr hs88
        refine ⟨.inr hq88, ?_⟩
        refine LH.take 12 (by kernel_rfl) rfl (by kernel_rfl) (by kernel_rfl) (by kernel_rfl) (fun Hq hq => Y.xor_u32 rfl rfl rfl) (Wd.u rfl) rfl rfl hq88 ?_
        refine LH.take 13 (by kernel_rfl) rfl (by kernel_rfl) (by kernel_rfl) (by kernel_rfl) (fun Hq hq => Y.add_u32 rfl rfl rfl) (Wd.u rfl) rfl rfl hq88 ?_
        refine LH.take 26 (by kernel_rfl) rfl (by kernel_rfl) (by kernel_rfl) (by kernel_rfl) (fun Hq hq => Y.add_u32 rfl rfl rfl) (Wd.u rfl) rfl rfl hq88 ?_
        refine LH.take 28 (by kernel_rfl) rfl (by kernel_rfl) (by kernel_rfl) (by kernel_rfl) (fun Hq hq => Y.add_u32 rfl rfl rfl) (Wd.u rfl) rfl rfl hq88 ?_
        refine LH.take 32 (by kernel_rfl) rfl (by kernel_rfl) (by kernel_rfl) (by kernel_rfl) (fun Hq hq => Y.add_u32 rfl rfl rfl) (Wd.u rfl) rfl rfl hq88 ?_
        refine LH.take 33 (by kernel_rfl) rfl (by kernel_rfl) (by kernel_rfl) (by kernel_rfl) (fun Hq hq => Y.assign rfl rfl) (Wd.u rfl) rfl rfl hq88 ?_
        refine LH.done (by kernel_rfl) ?_
        have hqe := hq88
        refine hK30 _ _ ?_
        refine CW.seq (fun K31 hK31 hE31 => ?_)
        refine CW.region_any (fun Hq => Nw H88 Hq) [] rfl ?_
        have hqs := Nw.refl H88
        refine LH.take 0 (by kernel_rfl) rfl (by kernel_rfl) (by kernel_rfl) (by kernel_rfl) (fun Hq hq => Y.arrAddr (va7.pt.nw hq) (0) rfl Tryz.runUnderlying187 Tryz.sizeOf185 rfl rfl (by first | rfl | omega) (by first | omega | (simp; omega) | (simp; done))) (Wd.u rfl) rfl rfl hqs ?_
        refine LH.take 1 (by kernel_rfl) rfl (by kernel_rfl) (by kernel_rfl) (by kernel_rfl) (fun Hq hq => Y.load1 (va7.pt.nw hq) rfl Tryz.isAgg185 rfl) (Wd.u rfl) rfl rfl hqs ?_
        refine LH.take 3 (by kernel_rfl) rfl (by kernel_rfl) (by kernel_rfl) (by kernel_rfl) (fun Hq hq => Y.arrAddr (va7.pt.nw hq) (0) rfl Tryz.runUnderlying187 Tryz.sizeOf185 rfl rfl (by first | rfl | omega) (by first | omega | (simp; omega) | (simp; done))) (Wd.u rfl) rfl rfl hqs ?_
        refine LH.take 4 (by kernel_rfl) rfl (by kernel_rfl) (by kernel_rfl) (by kernel_rfl) (fun Hq hq => Y.load1 (va7.pt.nw hq) rfl Tryz.isAgg185 rfl) (Wd.u rfl) rfl rfl hqs ?_
        refine LH.take 7 (by kernel_rfl) rfl (by kernel_rfl) (by kernel_rfl) (by kernel_rfl) (fun Hq hq => Y.arrAddr (va7.pt.nw hq) (0) rfl Tryz.runUnderlying187 Tryz.sizeOf185 rfl rfl (by first | rfl | omega) (by first | omega | (simp; omega) | (simp; done))) (Wd.u rfl) rfl rfl hqs ?_
        refine LH.take 8 (by kernel_rfl) rfl (by kernel_rfl) (by kernel_rfl) (by kernel_rfl) (fun Hq hq => Y.load1 (va7.pt.nw hq) rfl Tryz.isAgg185 rfl) (Wd.u rfl) rfl rfl hqs ?_
        refine LH.take 11 (by kernel_rfl) rfl (by kernel_rfl) (by kernel_rfl) (by kernel_rfl) (fun Hq hq => Y.arrAddr (va7.pt.nw hq) (0) rfl Tryz.runUnderlying187 Tryz.sizeOf185 rfl rfl (by first | rfl | omega) (by first | omega | (simp; omega) | (simp; done))) (Wd.u rfl) rfl rfl hqs ?_
        refine LH.take 12 (by kernel_rfl) rfl (by kernel_rfl) (by kernel_rfl) (by kernel_rfl) (fun Hq hq => Y.load1 (va7.pt.nw hq) rfl Tryz.isAgg185 rfl) (Wd.u rfl) rfl rfl hqs ?_
        refine LH.take 13 (by kernel_rfl) rfl (by kernel_rfl) (by kernel_rfl) (by kernel_rfl) (fun Hq hq => Y.arrAddr (va7.pt.nw hq) (1) rfl Tryz.runUnderlying187 Tryz.sizeOf185 rfl rfl (by first | rfl | omega) (by first | omega | (simp; omega) | (simp; done))) (Wd.u rfl) rfl rfl hqs ?_
        refine LH.take 14 (by kernel_rfl) rfl (by kernel_rfl) (by kernel_rfl) (by kernel_rfl) (fun Hq hq => Y.load1 ((va7.pt.drop 1).nw hq) rfl Tryz.isAgg185 rfl) (Wd.u rfl) rfl rfl hqs ?_
        refine LH.take 15 (by kernel_rfl) rfl (by kernel_rfl) (by kernel_rfl) (by kernel_rfl) (fun Hq hq => Y.and_u32 rfl rfl rfl) (Wd.u rfl) rfl rfl hqs ?_
        refine LH.take 16 (by kernel_rfl) rfl (by kernel_rfl) (by kernel_rfl) (by kernel_rfl) (fun Hq hq => Y.arrAddr (va7.pt.nw hq) (0) rfl Tryz.runUnderlying187 Tryz.sizeOf185 rfl rfl (by first | rfl | omega) (by first | omega | (simp; omega) | (simp; done))) (Wd.u rfl) rfl rfl hqs ?_
        refine LH.take 17 (by kernel_rfl) rfl (by kernel_rfl) (by kernel_rfl) (by kernel_rfl) (fun Hq hq => Y.load1 (va7.pt.nw hq) rfl Tryz.isAgg185 rfl) (Wd.u rfl) rfl rfl hqs ?_
        refine LH.take 18 (by kernel_rfl) rfl (by kernel_rfl) (by kernel_rfl) (by kernel_rfl) (fun Hq hq => Y.arrAddr (va7.pt.nw hq) (2) rfl Tryz.runUnderlying187 Tryz.sizeOf185 rfl rfl (by first | rfl | omega) (by first | omega | (simp; omega) | (simp; done))) (Wd.u rfl) rfl rfl hqs ?_
        refine LH.take 19 (by kernel_rfl) rfl (by kernel_rfl) (by kernel_rfl) (by kernel_rfl) (fun Hq hq => Y.load1 ((va7.pt.drop 2).nw hq) rfl Tryz.isAgg185 rfl) (Wd.u rfl) rfl rfl hqs ?_
        refine LH.take 20 (by kernel_rfl) rfl (by kernel_rfl) (by kernel_rfl) (by kernel_rfl) (fun Hq hq => Y.and_u32 rfl rfl rfl) (Wd.u rfl) rfl rfl hqs ?_
        refine LH.take 21 (by kernel_rfl) rfl (by kernel_rfl) (by kernel_rfl) (by kernel_rfl) (fun Hq hq => Y.xor_u32 rfl rfl rfl) (Wd.u rfl) rfl rfl hqs ?_
        refine LH.take 22 (by kernel_rfl) rfl (by kernel_rfl) (by kernel_rfl) (by kernel_rfl) (fun Hq hq => Y.arrAddr (va7.pt.nw hq) (1) rfl Tryz.runUnderlying187 Tryz.sizeOf185 rfl rfl (by first | rfl | omega) (by first | omega | (simp; omega) | (simp; done))) (Wd.u rfl) rfl rfl hqs ?_
        refine LH.take 23 (by kernel_rfl) rfl (by kernel_rfl) (by kernel_rfl) (by kernel_rfl) (fun Hq hq => Y.load1 ((va7.pt.drop 1).nw hq) rfl Tryz.isAgg185 rfl) (Wd.u rfl) rfl rfl hqs ?_
        refine LH.take 24 (by kernel_rfl) rfl (by kernel_rfl) (by kernel_rfl) (by kernel_rfl) (fun Hq hq => Y.arrAddr (va7.pt.nw hq) (2) rfl Tryz.runUnderlying187 Tryz.sizeOf185 rfl rfl (by first | rfl | omega) (by first | omega | (simp; omega) | (simp; done))) (Wd.u rfl) rfl rfl hqs ?_
        refine LH.take 25 (by kernel_rfl) rfl (by kernel_rfl) (by kernel_rfl) (by kernel_rfl) (fun Hq hq => Y.load1 ((va7.pt.drop 2).nw hq) rfl Tryz.isAgg185 rfl) (Wd.u rfl) rfl rfl hqs ?_
        refine LH.take 26 (by kernel_rfl) rfl (by kernel_rfl) (by kernel_rfl) (by kernel_rfl) (fun Hq hq => Y.and_u32 rfl rfl rfl) (Wd.u rfl) rfl rfl hqs ?_
        refine LH.take 27 (by kernel_rfl) rfl (by kernel_rfl) (by kernel_rfl) (by kernel_rfl) (fun Hq hq => Y.xor_u32 rfl rfl rfl) (Wd.u rfl) rfl rfl hqs ?_
        refine LH.one (i := 2) (by kernel_rfl) ?_
        -- call selvage/sum.turn
        refine LO.call rfl rfl Tryz.call159 rfl (Wd.u rfl) rfl rfl (turn_ct _ 2 w0 _ (by omega) (by omega)) (fun v112 H112 r112 => ?_)
        obtain ⟨rfl, rfl⟩ := r112
        have hs112 := Nw.refl H112
        have hq112 := hqs.tr hs112
        refine ⟨.inr hq112, ?_⟩
        refine LH.one (i := 5) (by kernel_rfl) ?_
        -- call selvage/sum.turn
        refine LO.call rfl rfl Tryz.call159 rfl (Wd.u rfl) rfl rfl (turn_ct _ 13 w0 _ (by omega) (by omega)) (fun v115 H115 r115 => ?_)
        obtain ⟨rfl, rfl⟩ := r115
        have hs115 := Nw.refl H115
        have hq115 := hq112.tr hs115
        refine ⟨.inr hq115, ?_⟩
        refine LH.take 6 (by kernel_rfl) rfl (by kernel_rfl) (by kernel_rfl) (by kernel_rfl) (fun Hq hq => Y.xor_u32 rfl rfl rfl) (Wd.u rfl) rfl rfl hq115 ?_
        refine LH.one (i := 9) (by kernel_rfl) ?_
        -- call selvage/sum.turn
        refine LO.call rfl rfl Tryz.call159 rfl (Wd.u rfl) rfl rfl (turn_ct _ 22 w0 _ (by omega) (by omega)) (fun v119 H119 r119 => ?_)
        obtain ⟨rfl, rfl⟩ := r119
        have hs119 := Nw.refl H119
        have hq119 := hq115.tr hs119
        refine ⟨.inr hq119, ?_⟩
        refine LH.take 10 (by kernel_rfl) rfl (by kernel_rfl) (by kernel_rfl) (by kernel_rfl) (fun Hq hq => Y.xor_u32 rfl rfl rfl) (Wd.u rfl) rfl rfl hq119 ?_
        refine LH.take 28 (by kernel_rfl) rfl (by kernel_rfl) (by kernel_rfl) (by kernel_rfl) (fun Hq hq => Y.add_u32 rfl rfl rfl) (Wd.u rfl) rfl rfl hq119 ?_
        refine LH.take 29 (by kernel_rfl) rfl (by kernel_rfl) (by kernel_rfl) (by kernel_rfl) (fun Hq hq => Y.assign rfl rfl) (Wd.u rfl) rfl rfl hq119 ?_
        refine LH.done (by kernel_rfl) ?_
        have hqe := hq119
        refine hK31 _ _ ?_
        refine CW.region ?_
        refine LR.v (Y.move rfl rfl) (Wd.u rfl) rfl rfl ?_
        refine LR.v (Y.move rfl rfl) (Wd.u rfl) rfl rfl ?_
        refine LR.v (Y.add_u32 rfl rfl rfl) (Wd.u rfl) rfl rfl ?_
        refine LR.v (Y.arrAddr va7.pt (0) rfl Tryz.runUnderlying187 Tryz.sizeOf185 rfl rfl (by first | rfl | omega) (by first | omega | (simp; omega) | (simp; done))) (Wd.u rfl) rfl rfl ?_
        refine LR.v (Y.load1 va7.pt rfl Tryz.isAgg185 rfl) (Wd.u rfl) rfl rfl ?_
        refine LR.v (Y.arrAddr va7.pt (1) rfl Tryz.runUnderlying187 Tryz.sizeOf185 rfl rfl (by first | rfl | omega) (by first | omega | (simp; omega) | (simp; done))) (Wd.u rfl) rfl rfl ?_
        refine LR.v (Y.load1 (va7.pt.drop 1) rfl Tryz.isAgg185 rfl) (Wd.u rfl) rfl rfl ?_
        refine LR.v (Y.arrAddr va7.pt (2) rfl Tryz.runUnderlying187 Tryz.sizeOf185 rfl rfl (by first | rfl | omega) (by first | omega | (simp; omega) | (simp; done))) (Wd.u rfl) rfl rfl ?_
        refine LR.v (Y.load1 (va7.pt.drop 2) rfl Tryz.isAgg185 rfl) (Wd.u rfl) rfl rfl ?_
        refine LR.v (Y.arrAddr va7.pt (3) rfl Tryz.runUnderlying187 Tryz.sizeOf185 rfl rfl (by first | rfl | omega) (by first | omega | (simp; omega) | (simp; done))) (Wd.u rfl) rfl rfl ?_
        refine LR.v (Y.load1 (va7.pt.drop 3) rfl Tryz.isAgg185 rfl) (Wd.u rfl) rfl rfl ?_
        refine LR.v (Y.move rfl rfl) (Wd.u rfl) rfl rfl ?_
        refine LR.v (Y.add_u32 rfl rfl rfl) (Wd.u rfl) rfl rfl ?_
        refine LR.v (Y.arrAddr va7.pt (4) rfl Tryz.runUnderlying187 Tryz.sizeOf185 rfl rfl (by first | rfl | omega) (by first | omega | (simp; omega) | (simp; done))) (Wd.u rfl) rfl rfl ?_
        refine LR.v (Y.load1 (va7.pt.drop 4) rfl Tryz.isAgg185 rfl) (Wd.u rfl) rfl rfl ?_
        refine LR.v (Y.arrAddr va7.pt (5) rfl Tryz.runUnderlying187 Tryz.sizeOf185 rfl rfl (by first | rfl | omega) (by first | omega | (simp; omega) | (simp; done))) (Wd.u rfl) rfl rfl ?_
        refine LR.v (Y.load1 (va7.pt.drop 5) rfl Tryz.isAgg185 rfl) (Wd.u rfl) rfl rfl ?_
        refine LR.v (Y.arrAddr va7.pt (6) rfl Tryz.runUnderlying187 Tryz.sizeOf185 rfl rfl (by first | rfl | omega) (by first | omega | (simp; omega) | (simp; done))) (Wd.u rfl) rfl rfl ?_
        refine LR.v (Y.load1 (va7.pt.drop 6) rfl Tryz.isAgg185 rfl) (Wd.u rfl) rfl rfl ?_
        refine LR.v (Y.build (v := .agg (rnd q (KS.getD i 0) (w.getD i 0)).cells.toArray) rfl rfl (by intro w; kernel_rfl)) (Wd.u rfl) rfl rfl ?_
        refine LR.s (S.var va7 ((rnd q (KS.getD i 0) (w.getD i 0)).cells) ((rnd q (KS.getD i 0) (w.getD i 0)).cells) rfl rfl rfl rfl (by simp [Value.oneCell']) Tryz.sizeOf187 (rfl) (Nat.le_of_ble_eq_true rfl) (rfl)) (Wd.u rfl) rfl (fun H17_20 r17_20 => ?_)
        obtain ⟨va7, hst17⟩ := r17_20
        refine LR.nil ?_
        refine hK28 _ _ ?_
        refine hK27 _ _ ?_
        refine CW.region ?_
        refine LR.v (Y.addi rfl rfl rfl (by omega)) (Wd.u rfl) rfl rfl ?_
        refine LR.v (Y.move rfl rfl) (Wd.u rfl) rfl rfl ?_
        refine LR.nil ?_
        refine QN.sub (hN24 (i + 1, rnd q (KS.getD i 0) (w.getD i 0)) _ ?_ ?_) ⟨rfl, rfl, rfl, rfl, (iv (by omega)), trivial⟩
        · exact ⟨by omega, by rw [hq3]; rfl, va7, hm3.trans hst17 (fun _ _ e => e) (fun _ _ e => e)⟩
        · show 64 - (i + 1) < 64 - i; omega
      ·
        have hi64 : i = 64 := by omega
        subst hi64
        rw [hwt] at hq3
        have hcm : (add8 st q).list = (compress st wt).list := by rw [hq3]; rfl
        refine CW.exit (hE26 (.exit 4) nofun _ _ (hE24 (.exit 4) nofun _ _ (hX23 _ _ ?_)))
        refine hK21 _ _ ?_
        refine CW.seq (fun K32 hK32 hE32 => ?_)
        refine CW.seq (fun K33 hK33 hE33 => ?_)
        refine CW.region ?_
        refine LR.v (Y.loadN va7.pt rfl Tryz.isAgg187 Tryz.sizeOf187 (rfl) rfl) (Wd.u rfl) rfl rfl ?_
        refine LR.v (Y.move rfl rfl) (Wd.u rfl) rfl rfl ?_
        refine LR.nil ?_
        refine hK33 _ _ ?_
        refine CW.block (fun K34 hK34 hX34 hE34 => ?_)
        refine CW.loop (fun (i : (Nat)) => [(0, .pointer (some ⟨hb, 0, none⟩)), (160, .agg q.cells.toArray), (161, .int .i64 i)])
          (fun (i : (Nat)) (H : Heap) => i ≤ 8 ∧ Var 211 H hb (hc (addL st.list q.list i) wt n al) ∧ Mo (fun c => c = hb) HL3 H)
          (fun (i : (Nat)) => 8 - i) 0 ⟨rfl, rfl, rfl, trivial⟩ ?_ ?_
        ·
          exact ⟨by omega, hv, Mo.refl _ _⟩
        intro i HL4 hI4 K35 hN35 hE35
        obtain ⟨hi4, hv, hm4⟩ := hI4
        have hal := addL_len st.list q.list i rfl rfl hi4
        refine CW.seq (fun K36 hK36 hE36 => ?_)
        refine CW.region ?_
        refine LR.v (Y.lss rfl rfl rfl) (Wd.u rfl) rfl rfl ?_
        refine LR.nil ?_
        refine hK36 _ _ ?_
        refine CW.seq (fun K37 hK37 hE37 => ?_)
        refine CW.condp rfl (fun c162 => ?_) (fun c162 => ?_)
        ·
          refine CW.skip ?_
          refine hK37 _ _ ?_
          refine CW.seq (fun K38 hK38 hE38 => ?_)
          refine CW.block (fun K39 hK39 hX39 hE39 => ?_)
          refine CW.seq (fun K40 hK40 hE40 => ?_)
          refine CW.region ?_
          refine LR.v (Y.move rfl rfl) (Wd.u rfl) rfl rfl ?_
          refine LR.v (Y.arrIndex (i) rfl Tryz.runUnderlying187 Tryz.sizeOf185 Tryz.isAgg185 rfl rfl (by first | rfl | omega) (by omega) (by rw [List.getElem?_toArray]; exact map_get q.list i (by simp; omega))) (Wd.u rfl) rfl rfl ?_
          refine LR.v (Y.assign rfl rfl) (Wd.u rfl) rfl rfl ?_
          refine LR.v (Y.assign rfl rfl) (Wd.u rfl) rfl rfl ?_
          refine LR.nil ?_
          refine hK40 _ _ ?_
          refine CW.region_tail 11 rfl (by kernel_rfl) (fun T22 hT22 => ?_)
          refine LR.v (Y.move rfl rfl) (Wd.u rfl) rfl rfl ?_
          refine LR.v (Y.move rfl rfl) (Wd.u rfl) rfl rfl ?_
          refine LR.v (Y.nilCheck rfl rfl) (Wd.u rfl) rfl rfl ?_
          refine LR.v (Y.fieldAddr hv.pt rfl Tryz.runUnderlying211 rfl rfl Tryz.sizeOf187 (by decide) rfl) (Wd.u rfl) rfl rfl ?_
          refine LR.v (Y.arrAddr hv.pt (i) rfl Tryz.runUnderlying187 Tryz.sizeOf185 rfl rfl (by first | rfl | omega) (by first | omega | (simp; omega) | (simp; done))) (Wd.u rfl) rfl rfl ?_
          
          refine LR.v (Y.load1 (hv.pt.at (i) (hc_state i (by omega))) rfl Tryz.isAgg185 rfl) (Wd.u rfl) rfl rfl ?_
          rw [addL_get st.list q.list i rfl rfl (by omega)]
          refine LR.v (Y.move rfl rfl) (Wd.u rfl) rfl rfl ?_
          refine LR.v (Y.add_u32 rfl rfl rfl) (Wd.u rfl) rfl rfl ?_
          refine LR.v (Y.nilCheck rfl rfl) (Wd.u rfl) rfl rfl ?_
          refine LR.v (Y.fieldAddr hv.pt rfl Tryz.runUnderlying211 rfl rfl Tryz.sizeOf187 (by decide) rfl) (Wd.u rfl) rfl rfl ?_
          refine LR.v (Y.arrAddr hv.pt (i) rfl Tryz.runUnderlying187 Tryz.sizeOf185 rfl rfl (by first | rfl | omega) (by first | omega | (simp; omega) | (simp; done))) (Wd.u rfl) rfl rfl ?_
          refine LR.nil (hT22 _ ?_)
          refine LR.s (S.var1 hv (0 + (i)) (_) rfl rfl rfl (rfl) Tryz.sizeOf185 (by rw [hc_len hal hw]; omega) (hc_set_state i (by omega) _)) (Wd.u rfl) rfl (fun H22_11 r22_11 => ?_)
          obtain ⟨hv, hst22⟩ := r22_11
          refine LR.nil ?_
          refine hK39 _ _ ?_
          refine hK38 _ _ ?_
          refine CW.region ?_
          refine LR.v (Y.addi rfl rfl rfl (by omega)) (Wd.u rfl) rfl rfl ?_
          refine LR.v (Y.move rfl rfl) (Wd.u rfl) rfl rfl ?_
          refine LR.nil ?_
          refine QN.sub (hN35 (i + 1) _ ?_ ?_) ⟨rfl, rfl, (iv (by omega)), trivial⟩
          · exact ⟨by omega, by rw [← addL_succ st.list q.list i rfl rfl (by omega)]; exact hv, hm4.trans hst22 (fun _ _ e => e) (fun _ _ e => e)⟩
          · omega
        ·
          have hi8 : i = 8 := by omega
          subst hi8
          refine CW.exit (hE37 (.exit 6) nofun _ _ (hE35 (.exit 6) nofun _ _ (hX34 _ _ ?_)))
          refine hK32 _ _ ?_
          refine CW.region ?_
          refine LR.v (Y.move rfl rfl) (Wd.u rfl) rfl rfl ?_
          refine LR.v (Y.nilCheck rfl rfl) (Wd.u rfl) rfl rfl ?_
          refine LR.v (Y.fieldAddr hv.pt rfl Tryz.runUnderlying211 rfl rfl Tryz.sizeOf3 (by decide) rfl) (Wd.u rfl) rfl rfl ?_
          refine LR.s (S.var1 hv 72 (_) rfl rfl rfl (rfl) Tryz.sizeOf3 (by rw [hc_len hal hw]; omega) (hc_set_n (m := 0) hal hw)) (Wd.u rfl) rfl (fun H24_3 r24_3 => ?_)
          obtain ⟨hv, hst24⟩ := r24_3
          refine LR.nil ?_
          refine hret .normal (.inl rfl) _ _ _ (res0 rfl) ?_
          refine ⟨rfl, by rw [← hcm]; exact hv, ⟨by have := hs2.size; have := hm.size; have := hm2.size; have := hs7.size; have := hs11.size; have := hs72.size; have := hm3.size; have := hm4.size; have := hst24.size; omega, fun b hb2 hne => ?_⟩⟩
          have q1 := hs2.size; have q2 := hm.size; have q3 := hm2.size; have q4 := hs7.size; have q5 := hs11.size; have q6 := hs72.size; have q7 := hm3.size; have q8 := hm4.size
          rw [hst24.same b (by omega) hne, hm4.same b (by omega) hne, hm3.same b (by omega) (by omega), hs72.same b (by omega) (fun e => e), hs11.same b (by omega) (by omega), hs7.same b (by omega) (fun e => e), hm2.same b (by omega) (by omega), hm.same b (by omega) (by omega), hs2.same b (by omega) (fun e => e)]

end Go.Proofs.YtdliddjkacbggaaGreatDoor.SumC
/-
  How the arguments of a statement read, as facts of the engine, and their sizes: no condition.
-/
namespace Go.Proofs.YtdliddjkacbggaaGreatDoor.E
set_option linter.unusedVariables false
set_option linter.unusedSimpArgs false
set_option linter.unusedSectionVars false
open Go.ChangeShapes Go.WideShapes Go.ChangeAt Go.RowKit Go.Deep

theorem bulkAll_append {H : Type} (l r : List (DataW H)) : Rows.uptoBulkAll (l ++ r) = Rows.uptoBulkAll l + Rows.uptoBulkAll r := by
  induction l with
  | nil => simp [Rows.uptoBulkAll]
  | cons x l ih => simp only [List.cons_append, Rows.uptoBulkAll, ih]; omega

theorem list_of {α : Type} {n : Nat} {p : Nat → α → Prop} (h : ∀ i, i < n → ∃ x, p i x) : ∃ l : List α, l.length = n ∧ ∀ i x, l[i]? = some x → p i x := by
  induction n with
  | zero => exact ⟨[], rfl, fun i x h => by simp at h⟩
  | succ n ih =>
    obtain ⟨l, hl, hp⟩ := ih (fun i hi => h i (by omega))
    obtain ⟨x, hx⟩ := h n (by omega)
    refine ⟨l ++ [x], by simp [hl], fun i y hy => ?_⟩
    by_cases hi : i < l.length
    · rw [List.getElem?_append_left hi] at hy; exact hp i y hy
    · rw [List.getElem?_append_right (by omega)] at hy
      have : i - l.length = 0 := by have := (List.getElem?_eq_some_iff.1 hy).1; simp at this; omega
      rw [this] at hy
      simp only [List.getElem?_cons_zero, Option.some.injEq] at hy
      subst hy
      have : i = n := by omega
      subst this; exact hx

theorem sum_le {α : Type} {H : Type} (B : α → Nat) (D : Nat → DataW H) (l : List α) (h : ∀ i x, l[i]? = some x → B x ≤ Rows.uptoBulk (D i)) : ∀ k, k ≤ l.length → ((l.take k).map B).sum ≤ Rows.uptoBulkAll ((List.range k).map D) := by
  intro k
  induction k with
  | zero => intro _; simp
  | succ k ih =>
    intro hk
    rw [List.range_succ, List.map_append, bulkAll_append, List.take_succ_eq_append_getElem (show k < l.length from hk), List.map_append, List.sum_append]
    have h1 := ih (by omega)
    have h2 := h k l[k] (by simp [show k < l.length from hk])
    simp only [List.map_cons, List.map_nil, List.sum_cons, List.sum_nil, Rows.uptoBulkAll]
    omega

section
variable {H : Type} {enc : TypeId × Value → H} {P : Program} {W : World} {base : Nat} {sp : Nat → Bool} {held : Bool}
theorem read_slice {α : Type} (f : α → List Value) (sz : Nat) (B : α → Nat) (Φ : α → Prop) {t e : TypeId} {v : Value} {d : DataW H} {p : List MemPlace} (hv : v.cells = #[v]) (ht : P.underlying t = some (.slice e)) (hc : P.cellsOf e = sz) (hf : ∀ x, (f x).length = sz) (hsz : 0 < sz)
    (elem : ∀ n cs' y ps, DataW.trod enc P W base sp held n e cs' = some (y, ps) → cs'.length = sz → ∃ x, cs' = f x ∧ Φ x ∧ B x ≤ Rows.uptoBulk y) (h : DataW.Trod enc P W base sp held t v d p) :
    ∃ l : List α, RdT W.heap f sz v l ∧ (∀ x ∈ l, Φ x) ∧ (l.map B).sum + 1 ≤ Rows.uptoBulk d := by
  obtain ⟨fuel, h⟩ := h
  rw [hv] at h
  rcases open_slice ht h with ⟨h1, h2⟩ | ⟨a, len, cap, m, n, D, Pl, h1, h2, h3, h4, h5, h6, h7⟩
  · simp only [Array.toList, List.cons.injEq, and_true] at h1
    simp only [Prod.mk.injEq] at h2
    obtain ⟨rfl, rfl⟩ := h2
    subst h1
    exact ⟨[], Rd.nil _ _ _ _, by simp, by simp [Rows.uptoBulk]⟩
  · simp only [List.cons.injEq, and_true] at h1
    simp only [Prod.mk.injEq] at h6
    obtain ⟨rfl, rfl⟩ := h6
    subst h1
    have hm : len ≤ m := by rw [h5]; split <;> omega
    have : ∀ i, i < len → ∃ x : α, ∃ cs', W.cells? base (a.add (i * sz)) sz = some cs' ∧ cs' = f x ∧ Φ x ∧ B x ≤ Rows.uptoBulk (D i) := by
      intro i hi
      obtain ⟨cs', hcs, htr⟩ := h7 i (by omega)
      rw [hc] at hcs
      obtain ⟨_, hl, _⟩ := World.cells?_some hcs
      obtain ⟨x, hx⟩ := elem n cs' _ _ htr hl
      exact ⟨x, cs', hcs, hx⟩
    obtain ⟨l, hl, hp⟩ := list_of this
    refine ⟨l, ⟨some a, cap, by rw [hl], by omega, h4, fun hne => ?_⟩, fun x hx => ?_, ?_⟩
    · have hlen : 0 < l.length := List.length_pos_iff.2 hne
      obtain ⟨cs0, hcs0, hcs0', _⟩ := hp 0 l[0] (by simp [hlen])
      obtain ⟨_, hl0, hcell0⟩ := World.cells?_some hcs0
      have hc0 := hcell0 0 (by omega)
      have hh : W.cell? a = some (cs0[0]'(by omega)) := by
        simp only [Nat.zero_mul] at hc0
        rw [← List.getElem?_eq_getElem, ← hc0]
        simp [Addr.add]
      have hspot : a.spot = none := World.cell?_spot hh
      refine ⟨a, rfl, hspot, trivial, World.block_lt_of_cell? W a hh, fun i x hx => ⟨rfl, fun j c hj => ?_⟩⟩
      obtain ⟨cs', hcs', rfl, _, _⟩ := hp i x hx
      obtain ⟨_, hl', hcell'⟩ := World.cells?_some hcs'
      have hjl := (List.getElem?_eq_some_iff.1 hj).1
      have := hcell' j (by rw [← hl']; exact hjl)
      rw [hj] at this
      rw [add_eq hspot, add_eq rfl] at this
      show cell W.heap _ = _
      rw [← (At.cell (w0 := W) ⟨rfl, rfl, rfl, rfl, Nat.le_refl _⟩ _)]
      exact this
    · obtain ⟨i, hi⟩ := List.mem_iff_getElem?.1 hx
      obtain ⟨_, _, _, h8, _⟩ := hp i x hi
      exact h8
    · have := sum_le B D l (fun i x hx => by obtain ⟨_, _, _, _, h9⟩ := hp i x hx; exact h9) l.length (Nat.le_refl _)
      rw [List.take_length, hl] at this
      simp only [Rows.uptoBulk]
      omega

theorem sum_len {α : Type} (B : α → Nat) (hB : ∀ x, 1 ≤ B x) : ∀ (l : List α), l.length ≤ (l.map B).sum
  | [] => by simp
  | y :: l => by simp only [List.map_cons, List.sum_cons, List.length_cons]; have := hB y; have := sum_len B hB l; omega

/-- a slice of texts -/
theorem read_strs {t e : TypeId} {v : Value} {d : DataW H} {p : List MemPlace} (hv : v.cells = #[v]) (ht : P.underlying t = some (.slice e)) (he : P.underlying e = some .string) (hc : P.cellsOf e = 1) (h : DataW.Trod enc P W base sp held t v d p) :
    ∃ l : List (List UInt8), RdT W.heap fS 1 v l ∧ (l.map (fun s => s.length + 1)).sum + 1 ≤ Rows.uptoBulk d := by
  obtain ⟨l, h1, _, h2⟩ := read_slice fS 1 (fun s => s.length + 1) (fun _ => True) hv ht hc fS_len (by omega) (fun n cs' y ps hy hl => by
    obtain ⟨s, rfl, h3⟩ := DataW.trod_string he hy
    simp only [Prod.mk.injEq] at h3
    refine ⟨s.data.toList, rfl, trivial, ?_⟩
    rw [h3.1.1]
    simp [Rows.uptoBulk]) h
  exact ⟨l, h1, h2⟩
/-- a slice of numbers -/
theorem read_ints {k : IntKind} {t e : TypeId} {v : Value} {d : DataW H} {p : List MemPlace} (hv : v.cells = #[v]) (ht : P.underlying t = some (.slice e)) (he : P.underlying e = some (.int k)) (hc : P.cellsOf e = 1) (h : DataW.Trod enc P W base sp held t v d p) :
    ∃ l : List Int, RdT W.heap (fun x => [Value.int k x]) 1 v l ∧ (∀ x ∈ l, (Lit.int k x).wf = true) ∧ l.length + 1 ≤ Rows.uptoBulk d := by
  obtain ⟨l, h1, h0, h2⟩ := read_slice (fun x => [Value.int k x]) 1 (fun _ => 1) (fun x => (Lit.int k x).wf = true) hv ht hc (fun _ => rfl) (by omega) (fun n cs' y ps hy hl => by
    obtain ⟨x, rfl, h3, h4⟩ := DataW.trod_int he hy
    simp only [Prod.mk.injEq] at h3
    refine ⟨x, rfl, h4, ?_⟩
    rw [h3.1]
    simp [Rows.uptoBulk]) h
  exact ⟨l, h1, h0, by have := sum_len (fun _ : Int => 1) (fun _ => by omega) l; omega⟩
theorem u8_of {x : Int} (h : (Lit.int .u8 x).wf = true) : ∃ b : UInt8, x = b.toNat := by
  simp only [Lit.wf, Bool.and_eq_true, decide_eq_true_eq, show IntKind.u8.min = 0 by decide, show IntKind.u8.max = 255 by decide] at h
  refine ⟨UInt8.ofNat x.toNat, ?_⟩
  rw [UInt8.toNat_ofNat']
  omega
theorem i64_of {x : Int} (h : (Lit.int .i64 x).wf = true) : -9223372036854775808 ≤ x ∧ x ≤ 9223372036854775807 := by
  simpa only [Lit.wf, Bool.and_eq_true, decide_eq_true_eq, show IntKind.i64.min = -9223372036854775808 by decide, show IntKind.i64.max = 9223372036854775807 by decide] using h
/-- a slice of bytes -/
theorem read_bytes {t e : TypeId} {v : Value} {d : DataW H} {p : List MemPlace} (hv : v.cells = #[v]) (ht : P.underlying t = some (.slice e)) (he : P.underlying e = some (.int .u8)) (hc : P.cellsOf e = 1) (h : DataW.Trod enc P W base sp held t v d p) :
    ∃ l : List UInt8, RdT W.heap fB 1 v l ∧ l.length + 1 ≤ Rows.uptoBulk d := by
  obtain ⟨l, h1, _, h2⟩ := read_slice fB 1 (fun _ => 1) (fun _ => True) hv ht hc fB_len (by omega) (fun n cs' y ps hy hl => by
    obtain ⟨x, rfl, h3, h4⟩ := DataW.trod_int he hy
    obtain ⟨b, rfl⟩ := u8_of h4
    simp only [Prod.mk.injEq] at h3
    refine ⟨b, rfl, trivial, ?_⟩
    rw [h3.1]
    simp [Rows.uptoBulk]) h
  exact ⟨l, h1, by have := sum_len (fun _ : UInt8 => 1) (fun _ => by omega) l; omega⟩
/-- elements that are slices themselves -/
abbrev fP {β : Type} (x : SV × β) : List Value := [x.1.v]
theorem fP_len {β : Type} (x : SV × β) : (fP x).length = 1 := rfl
theorem fP_one {β : Type} (x : SV × β) : ∀ u ∈ fP x, u.oneCell' = true := by intro u hu; simp only [List.mem_singleton] at hu; subst hu; rfl
theorem read_nested {β : Type} (Ψ : Value → β → Prop) (B : β → Nat) {t e ee : TypeId} {v : Value} {d : DataW H} {p : List MemPlace} (hv : v.cells = #[v]) (ht : P.underlying t = some (.slice e)) (he : P.underlying e = some (.slice ee)) (hc : P.cellsOf e = 1)
    (rd : ∀ (v : Value) (d : DataW H) (p : List MemPlace), v.cells = #[v] → DataW.Trod enc P W base sp held e v d p → ∃ l : β, Ψ v l ∧ B l ≤ Rows.uptoBulk d) (h : DataW.Trod enc P W base sp held t v d p) :
    ∃ l : List (SV × β), RdT W.heap fP 1 v l ∧ (∀ x ∈ l, Ψ x.1.v x.2) ∧ (l.map (fun x => B x.2)).sum + 1 ≤ Rows.uptoBulk d := by
  refine read_slice (fP (β := β)) 1 (fun x => B x.2) (fun x => Ψ x.1.v x.2) hv ht hc fP_len (by omega) (fun n cs' y ps hy hl => ?_) h
  match cs', hl with
  | [u], _ =>
    have hu : ∃ s : SV, u = s.v := by
      rcases open_slice he hy with ⟨h1, _⟩ | ⟨a, len, cap, _, _, _, _, h1, _⟩
      · simp only [List.cons.injEq, and_true] at h1; exact ⟨⟨none, 0, 0⟩, h1⟩
      · simp only [List.cons.injEq, and_true] at h1; exact ⟨⟨some a, len, cap⟩, h1⟩
    obtain ⟨s, rfl⟩ := hu
    obtain ⟨l, h1, h2⟩ := rd s.v y ps rfl ⟨n, hy⟩
    exact ⟨(s, l), rfl, h1, h2⟩
/-- rows of bytes -/
theorem read_byteses {t e ee : TypeId} {v : Value} {d : DataW H} {p : List MemPlace} (hv : v.cells = #[v]) (ht : P.underlying t = some (.slice e)) (he : P.underlying e = some (.slice ee)) (hee : P.underlying ee = some (.int .u8)) (hc : P.cellsOf e = 1) (hce : P.cellsOf ee = 1) (h : DataW.Trod enc P W base sp held t v d p) :
    ∃ l : List (SV × List UInt8), RdT W.heap fP 1 v l ∧ (∀ x ∈ l, RdT W.heap fB 1 x.1.v x.2) ∧ (l.map (fun x => x.2.length + 1)).sum + 1 ≤ Rows.uptoBulk d :=
  read_nested (fun v l => RdT W.heap fB 1 v l) (fun l => l.length + 1) hv ht he hc (fun v d p hv h => read_bytes hv he hee hce h) h
end
end Go.Proofs.YtdliddjkacbggaaGreatDoor.E
/-
  The contracts of a sum under way.
-/
namespace Go.Proofs.YtdliddjkacbggaaGreatDoor.SumD
open Go.Proofs.YtdliddjkacbggaaGreatDoor.E Go.RowKit Go.Proofs.YtdliddjkacbggaaGreatDoor.SumA Go.Proofs.YtdliddjkacbggaaGreatDoor.SumB Go.Proofs.YtdliddjkacbggaaGreatDoor.SumC
set_option maxRecDepth 20000
set_option linter.unusedVariables false
set_option linter.unusedSimpArgs false
set_option linter.unusedSectionVars false

def IV : S8 := ⟨0x6a09e667, 0xbb67ae85, 0x3c6ef372, 0xa54ff53a, 0x510e527f, 0x9b05688c, 0x1f83d9ab, 0x5be0cd19⟩
/-- whole blocks are taken in, the rest waits -/
def run (s : S8) (b : List UInt8) : S8 × List UInt8 := if h : b.length < 64 then (s, b) else run (compress s (b.take 64)) (b.drop 64)
termination_by b.length
decreasing_by simp; omega
theorem run_lt (s : S8) (b : List UInt8) (h : b.length < 64) : run s b = (s, b) := by rw [run, dif_pos h]
theorem run_ge (s : S8) (b : List UInt8) (h : 64 ≤ b.length) : run s b = run (compress s (b.take 64)) (b.drop 64) := by rw [run, dif_neg (by omega)]
theorem run_len : ∀ (n : Nat) (s : S8) (b : List UInt8), b.length ≤ n → (run s b).2.length < 64 := by
  intro n
  induction n with
  | zero => intro s b h; rw [run_lt s b (by omega)]; simp; omega
  | succ n ih =>
    intro s b h
    by_cases hb : b.length < 64
    · rw [run_lt s b hb]; exact hb
    · rw [run_ge s b (by omega)]; exact ih _ _ (by simp; omega)
theorem run_app : ∀ (n : Nat) (s : S8) (a b : List UInt8), a.length ≤ n → run s (a ++ b) = run (run s a).1 ((run s a).2 ++ b) := by
  intro n
  induction n with
  | zero => intro s a b h; rw [run_lt s a (by omega)]
  | succ n ih =>
    intro s a b h
    by_cases ha : a.length < 64
    · rw [run_lt s a ha]
    · rw [run_ge s a (by omega), run_ge s (a ++ b) (by simp; omega), List.take_append_of_le_length (by omega), List.drop_append_of_le_length (by omega)]
      exact ih _ _ _ (by simp; omega)
theorem run_more (s : S8) (a b : List UInt8) : run s (a ++ b) = run (run s a).1 ((run s a).2 ++ b) := run_app _ s a b (Nat.le_refl _)
theorem run_rest (s : S8) (b : List UInt8) : (run s b).2.length < 64 := run_len _ s b (Nat.le_refl _)
theorem hc_splice {s : List UInt32} {wt xs : List UInt8} {n m : Nat} {al : UInt64} (hs : s.length = 8) (hw : wt.length = 64) (h : m + xs.length ≤ 64) : splice (hc s wt n al) (8 + m) (xs.flatMap fB) = hc s (wt.take m ++ xs ++ wt.drop (m + xs.length)) n al := by
  have h8 : (s.map V32).length = 8 := by simpa using hs
  have hx : (xs.flatMap fB).length = xs.length := by rw [length_flatMap fB_len, Nat.mul_one]
  have e : ∀ (wt : List UInt8), hc s wt n al = s.map V32 ++ (wt.map V8 ++ [.int .i64 n, .int .u64 al.toNat]) := fun wt => by rw [hc, List.append_assoc]
  rw [splice, hx, e, e, List.take_append, List.take_of_length_le (by omega), h8, show 8 + m - 8 = m by omega, List.drop_append, List.drop_of_length_le (by omega), h8, List.nil_append, show 8 + m + xs.length - 8 = m + xs.length by omega]
  rw [List.take_append_of_le_length (by simp; omega), List.drop_append_of_le_length (by simp; omega), flatMap_fB]
  simp [List.map_append, List.map_take, List.map_drop]
/-- a sum under way: m has come so far -/
structure HS (H : Heap) (hb : Nat) (m : List UInt8) (al : UInt64) : Prop where
  ex : ∃ wt : List UInt8, wt.length = 64 ∧ Var 211 H hb (hc (run IV m).1.list wt (run IV m).2.length al) ∧ wt.take (run IV m).2.length = (run IV m).2
theorem HS.nw {H H' : Heap} {hb : Nat} {m : List UInt8} {al : UInt64} (h : HS H hb m al) (s : Nw H H') : HS H' hb m al := let ⟨wt, h1, h2, h3⟩ := h.ex; ⟨wt, h1, h2.nw s, h3⟩
theorem HS.up {H H' : Heap} {hb : Nat} {m : List UInt8} {al : UInt64} {S : Nat → Prop} (h : HS H hb m al) (s : Mo S H H') (hS : ¬ S hb) : HS H' hb m al := let ⟨wt, h1, h2, h3⟩ := h.ex; ⟨wt, h1, h2.up s hS, h3⟩
theorem HS.lt {H : Heap} {hb : Nat} {m : List UInt8} {al : UInt64} (h : HS H hb m al) : hb < H.size := let ⟨_, _, h2, _⟩ := h.ex; h2.lt
def cat (l : List (SV × List UInt8)) : List UInt8 := l.flatMap (·.2)
theorem cat_take (l : List (SV × List UInt8)) (k : Nat) (h : k < l.length) : cat (l.take (k + 1)) = cat (l.take k) ++ (l[k]).2 := by
  unfold cat; rw [List.take_succ_eq_append_getElem h, List.flatMap_append]; simp

theorem new_ct  (w0 : World) (H0 : Heap)
     :
    Ct Tryz.prog w0 128 #[] H0 (fun r H2 => r = .pointer (some ⟨H0.size, 0, none⟩) ∧ HS H2 H0.size [] 0 ∧ Nw H0 H2 ∧ H2.size = H0.size + 1) := by
  refine Ct.enter (args := []) Tryz.func128 rfl rfl rfl ?_
  intro Q0 hret
  refine CW.seq (fun K1 hK1 hE1 => ?_)
  refine CW.region ?_
  refine LR.v (Y.assign rfl rfl) (Wd.u rfl) rfl rfl ?_
  refine LR.nil ?_
  refine hK1 _ _ ?_
  refine CW.seq (fun K2 hK2 hE2 => ?_)
  refine CW.region ?_
  refine LR.v (Y.build (v := .agg (IV.list.map V32).toArray) rfl rfl (by intro w; kernel_rfl)) (Wd.u rfl) rfl rfl ?_
  refine LR.v (Y.build (v := .agg (hc IV.list (List.replicate 64 0) 0 0).toArray) rfl rfl (by intro w; kernel_rfl)) (Wd.u rfl) rfl rfl ?_
  refine LR.z (Z.boxv rfl rfl) (Wd.u rfl) rfl rfl (fun v3 H3 r3 => ?_)
  obtain ⟨rfl, va3, hs3, ob3, hH3⟩ := r3
  replace va3 : Var 211 H3 H0.size (hc IV.list (List.replicate 64 0) 0 0) := va3
  refine LR.v (Y.assign rfl rfl) (Wd.u rfl) rfl rfl ?_
  refine LR.nil ?_
  refine hK2 _ _ ?_
  refine CW.ret (hret .ret (.inr rfl) _ _ _ (res1 rfl rfl) ?_)
  exact ⟨rfl, ⟨List.replicate 64 0, by simp, by rw [run_lt IV [] (by simp)]; exact va3, by rw [run_lt IV [] (by simp)]; rfl⟩, hs3, by rw [hH3]; simp⟩


theorem run_part {c x wt : List UInt8} {n : Nat} (hn : (run IV c).2.length = n) (hb : wt.take n = (run IV c).2) (hw : wt.length = 64) (h : n + x.length < 64) : run IV (c ++ x) = ((run IV c).1, wt.take n ++ x) := by
  rw [run_more, run_lt _ _ (by simp; omega), hb]
theorem run_full {c x wt : List UInt8} {n : Nat} (hn : (run IV c).2.length = n) (hb : wt.take n = (run IV c).2) (hw : wt.length = 64) (h : n + x.length = 64) : run IV (c ++ x) = (compress (run IV c).1 (wt.take n ++ x ++ wt.drop (n + x.length)), []) := by
  have hl : (wt.take n ++ x).length = 64 := by simp; omega
  rw [run_more, ← hb, run_ge _ _ (by omega), List.take_of_length_le (by omega), List.drop_of_length_le (by omega), run_lt _ _ (by simp), List.drop_of_length_le (show wt.length ≤ n + x.length by omega), List.append_nil]
theorem join_take {wt x : List UInt8} {n : Nat} (hw : wt.length = 64) (h : n + x.length ≤ 64) : (wt.take n ++ x ++ wt.drop (n + x.length)).length = 64 ∧ (wt.take n ++ x ++ wt.drop (n + x.length)).take (n + x.length) = wt.take n ++ x := by
  have hl : (wt.take n ++ x).length = n + x.length := by simp; omega
  exact ⟨by simp; omega, List.take_left' hl⟩

set_option maxHeartbeats 4000000 in
theorem write_ct (hb : Nat) (vl : Value) (m : List UInt8) (al : UInt64) (l : List (SV × List UInt8)) (w0 : World) (H0 : Heap)
    (hS : HS H0 hb m al) (hl : Rd (fun b => b ≠ hb) H0 fP 1 vl l) (hx : ∀ x ∈ l, Rd (fun b => b ≠ hb) H0 fB 1 x.1.v x.2) :
    Ct Tryz.prog w0 129 #[.pointer (some ⟨hb, 0, none⟩), vl] H0 (fun r H2 => r = .tuple #[] ∧ HS H2 hb (m ++ cat l) (al + UInt64.ofNat (cat l).length) ∧ Mo (fun c => c = hb) H0 H2) := by
  refine Ct.enter (args := [.pointer (some ⟨hb, 0, none⟩), vl]) Tryz.func129 rfl rfl rfl ?_
  intro Q0 hret
  have hll := hl.len
  refine CW.seq (fun K1 hK1 hE1 => ?_)
  refine CW.region ?_
  refine LR.v (Y.move rfl rfl) (Wd.u rfl) rfl rfl ?_
  refine LR.v (Y.len hl rfl Tryz.runUnderlying22 rfl) (Wd.u rfl) rfl rfl ?_
  refine LR.v (Y.move rfl rfl) (Wd.u rfl) rfl rfl ?_
  refine LR.nil ?_
  refine hK1 _ _ ?_
  refine CW.block (fun K2 hK2 hX2 hE2 => ?_)
  refine CW.loop (fun (k : (Nat)) => [(0, .pointer (some ⟨hb, 0, none⟩)), (7, vl), (8, .int .i64 l.length), (9, .int .i64 k)])
    (fun (k : (Nat)) (H : Heap) => k ≤ l.length ∧ HS H hb (m ++ cat (l.take k)) (al + UInt64.ofNat (cat (l.take k)).length) ∧ Mo (fun c => c = hb) H0 H)
    (fun (k : (Nat)) => l.length - k) 0 ⟨rfl, rfl, rfl, rfl, trivial⟩ ?_ ?_
  ·
    exact ⟨by omega, by simpa [cat] using hS, Mo.refl _ _⟩
  intro k HL1 hI1 K3 hN3 hE3
  obtain ⟨hk, hS, hm⟩ := hI1
  obtain ⟨wt, hwt, hv, hbuf⟩ := hS.ex
  have hl2 := hl.up hm (fun _ _ h1 h2 => h1 h2)
  refine CW.seq (fun K4 hK4 hE4 => ?_)
  refine CW.region ?_
  refine LR.v (Y.lss rfl rfl rfl) (Wd.u rfl) rfl rfl ?_
  refine LR.nil ?_
  refine hK4 _ _ ?_
  refine CW.seq (fun K5 hK5 hE5 => ?_)
  refine CW.condp rfl (fun c10 => ?_) (fun c10 => ?_)
  ·
    refine CW.skip ?_
    refine hK5 _ _ ?_
    refine CW.seq (fun K6 hK6 hE6 => ?_)
    refine CW.block (fun K7 hK7 hX7 hE7 => ?_)
    refine CW.seq (fun K8 hK8 hE8 => ?_)
    refine CW.region ?_
    refine LR.e (g := fun ad => .pointer (some ad)) (Y.indexAddr hl2 (k) rfl Tryz.runUnderlying22 Tryz.sizeOf34 rfl rfl (by first | rfl | omega) (by first | omega | (simp; omega) | (simp; done))) (Wd.u rfl) rfl rfl (fun ad11 pt11 => ?_)
    refine LR.v (Y.load1 pt11 rfl Tryz.isAgg34 rfl) (Wd.u rfl) rfl rfl ?_
    have hr0 := (hx l[k] (List.getElem_mem _)).up hm (fun _ _ h1 h2 => h1 h2)
    have hrl := hr0.len
    refine LR.v (Y.assign rfl rfl) (Wd.u rfl) rfl rfl ?_
    refine LR.nil ?_
    refine hK8 _ _ ?_
    refine CW.seq (fun K9 hK9 hE9 => ?_)
    refine CW.region ?_
    refine LR.v (Y.move rfl rfl) (Wd.u rfl) rfl rfl ?_
    refine LR.v (Y.nilCheck rfl rfl) (Wd.u rfl) rfl rfl ?_
    refine LR.v (Y.fieldAddr hv.pt rfl Tryz.runUnderlying211 rfl rfl Tryz.sizeOf151 (by decide) rfl) (Wd.u rfl) rfl rfl ?_
    refine LR.v (Y.load1 (hv.pt.at 73 (hc_all rfl hwt)) rfl Tryz.isAgg151 rfl) (Wd.u rfl) rfl rfl ?_
    refine LR.v (Y.move rfl rfl) (Wd.u rfl) rfl rfl ?_
    refine LR.v (Y.len hr0 rfl Tryz.runUnderlying34 rfl) (Wd.u rfl) rfl rfl ?_
    refine LR.v (Y.conv_u64 rfl Tryz.runUnderlying3 Tryz.runUnderlying151 rfl) (Wd.u rfl) rfl rfl ?_
    refine LR.v (Y.add_u64 rfl rfl rfl) (Wd.u rfl) rfl rfl ?_
    refine LR.v (Y.nilCheck rfl rfl) (Wd.u rfl) rfl rfl ?_
    refine LR.v (Y.fieldAddr hv.pt rfl Tryz.runUnderlying211 rfl rfl Tryz.sizeOf151 (by decide) rfl) (Wd.u rfl) rfl rfl ?_
    refine LR.s (S.var1 hv 73 (_) rfl rfl rfl (rfl) Tryz.sizeOf151 (by rw [hc_len rfl hwt]; omega) (hc_set_all rfl hwt)) (Wd.u rfl) rfl (fun H3_10 r3_10 => ?_)
    obtain ⟨hv, hst3⟩ := r3_10
    replace hm := hm.trans hst3 (fun _ _ e => e) (fun _ _ e => e)
    replace hr0 := hr0.up hst3 (fun _ _ h1 h2 => h1 h2)
    refine LR.nil ?_
    refine hK9 _ _ ?_
    refine CW.block (fun K10 hK10 hX10 hE10 => ?_)
    refine CW.loop (fun (s_ : (Value) × (List UInt8) × (List UInt8) × (List UInt8)) => match s_ with | (v, r, c, wt) => [(0, .pointer (some ⟨hb, 0, none⟩)), (5, v), (7, vl), (8, .int .i64 l.length), (9, .int .i64 k)])
      (fun (s_ : (Value) × (List UInt8) × (List UInt8) × (List UInt8)) (H : Heap) => match s_ with | (v, r, c, wt) => wt.length = 64 ∧ Var 211 H hb (hc (run IV c).1.list wt (run IV c).2.length (al + UInt64.ofNat (cat (l.take k)).length + UInt64.ofNat (l[k]).2.length)) ∧ wt.take (run IV c).2.length = (run IV c).2 ∧ Rd (fun b => b ≠ hb) H fB 1 v r ∧ c ++ r = m ++ cat (l.take k) ++ (l[k]).2 ∧ Mo (fun c => c = hb) H0 H)
      (fun (s_ : (Value) × (List UInt8) × (List UInt8) × (List UInt8)) => match s_ with | (v, r, c, wt) => r.length) ((l[k]).1.v, (l[k]).2, m ++ cat (l.take k), wt) ⟨rfl, rfl, rfl, rfl, rfl, trivial⟩ ?_ ?_
    ·
      exact ⟨hwt, hv, hbuf, hr0, rfl, hm⟩
    rintro ⟨v, r, c, wt⟩ HL2 hI2 K11 hN11 hE11
    obtain ⟨hwt, hv, hbuf, hr, hc0, hm⟩ := hI2
    have hrl := hr.len
    refine CW.seq (fun K12 hK12 hE12 => ?_)
    refine CW.seq (fun K13 hK13 hE13 => ?_)
    refine CW.region ?_
    refine LR.v (Y.move rfl rfl) (Wd.u rfl) rfl rfl ?_
    refine LR.v (Y.len hr rfl Tryz.runUnderlying34 rfl) (Wd.u rfl) rfl rfl ?_
    refine LR.v (Y.gtr rfl rfl rfl) (Wd.u rfl) rfl rfl ?_
    refine LR.nil ?_
    refine hK13 _ _ ?_
    refine CW.condp rfl (fun c25 => ?_) (fun c25 => ?_)
    ·
      refine CW.skip ?_
      refine hK12 _ _ ?_
      refine CW.block (fun K14 hK14 hX14 hE14 => ?_)
      refine CW.seq (fun K15 hK15 hE15 => ?_)
      have hn64 := run_rest IV c
      obtain ⟨n, hn⟩ : ∃ n, (run IV c).2.length = n := ⟨_, rfl⟩
      rw [hn] at hv hbuf hn64
      obtain ⟨kk, hkk⟩ : ∃ kk, min r.length (64 - n) = kk := ⟨_, rfl⟩
      have hkl : (r.take kk).length = kk := by simp; omega
      obtain ⟨hj1, hj2⟩ := join_take (x := r.take kk) (n := n) hwt (by omega)
      refine CW.region_tail 9 rfl (by kernel_rfl) (fun T5 hT5 => ?_)
      refine LR.v (Y.move rfl rfl) (Wd.u rfl) rfl rfl ?_
      refine LR.v (Y.nilCheck rfl rfl) (Wd.u rfl) rfl rfl ?_
      refine LR.v (Y.fieldAddr hv.pt rfl Tryz.runUnderlying211 rfl rfl Tryz.sizeOf209 (by decide) rfl) (Wd.u rfl) rfl rfl ?_
      refine LR.v (Y.move rfl rfl) (Wd.u rfl) rfl rfl ?_
      refine LR.v (Y.nilCheck rfl rfl) (Wd.u rfl) rfl rfl ?_
      refine LR.v (Y.fieldAddr hv.pt rfl Tryz.runUnderlying211 rfl rfl Tryz.sizeOf3 (by decide) rfl) (Wd.u rfl) rfl rfl ?_
      refine LR.v (Y.load1 (hv.pt.at 72 (hc_n rfl hwt)) rfl Tryz.isAgg3 rfl) (Wd.u rfl) rfl rfl ?_
      refine LR.v ((Y.sliceArr (F := fun c => c = hb) (f := fB) (xs := wt) (hv.pt.drop 8) rfl hv.lt (hwt) (fun i x h => hc_wait rfl i x h) (n) (64) rfl (fun w => .inl (Tryz.runUnderlying209 w)) Tryz.sizeOf5 rfl (.inr ⟨_, _, _, rfl, rfl, by first | rfl | omega⟩) (.inl ⟨rfl, rfl⟩) (by omega) (by omega) (by decide)).1 _) (Wd.u rfl) rfl rfl ?_
      rw [if_neg (by omega)]
      refine LR.v (Y.move rfl rfl) (Wd.u rfl) rfl rfl ?_
      refine LR.nil (hT5 _ ?_)
      refine LR.z (Z.copy (off := 8 + n) hv hr fB_len fB_one rfl Tryz.underlying34 Tryz.sizeOf5 rfl rfl (by rw [hc_len rfl hwt]; omega) (kk) (by omega)) (Wd.u rfl) rfl rfl (fun v35 H35 r35 => ?_)
      obtain ⟨rfl, hv, hs35⟩ := r35
      rw [hc_splice rfl hwt (by omega)] at hv
      replace hr := hr.up hs35 (fun _ _ h1 h2 => h1 h2)
      replace hm := hm.trans hs35 (fun _ _ e => e) (fun _ _ e => e)
      refine LR.v (Y.assign rfl rfl) (Wd.u rfl) rfl rfl ?_
      refine LR.nil ?_
      refine hK15 _ _ ?_
      refine CW.seq (fun K16 hK16 hE16 => ?_)
      refine CW.region ?_
      refine LR.v (Y.move rfl rfl) (Wd.u rfl) rfl rfl ?_
      refine LR.v (Y.nilCheck rfl rfl) (Wd.u rfl) rfl rfl ?_
      refine LR.v (Y.fieldAddr hv.pt rfl Tryz.runUnderlying211 rfl rfl Tryz.sizeOf3 (by decide) rfl) (Wd.u rfl) rfl rfl ?_
      refine LR.v (Y.load1 (hv.pt.at 72 (hc_n rfl hj1)) rfl Tryz.isAgg3 rfl) (Wd.u rfl) rfl rfl ?_
      refine LR.v (Y.move rfl rfl) (Wd.u rfl) rfl rfl ?_
      refine LR.v (Y.addi rfl rfl rfl (by omega)) (Wd.u rfl) rfl rfl ?_
      refine LR.v (Y.nilCheck rfl rfl) (Wd.u rfl) rfl rfl ?_
      refine LR.v (Y.fieldAddr hv.pt rfl Tryz.runUnderlying211 rfl rfl Tryz.sizeOf3 (by decide) rfl) (Wd.u rfl) rfl rfl ?_
      refine LR.s (S.var1 hv 72 (hc (run IV c).1.list (wt.take n ++ r.take kk ++ wt.drop (n + (r.take kk).length)) (n + kk) (al + UInt64.ofNat (cat (l.take k)).length + UInt64.ofNat (l[k]).2.length)) rfl rfl rfl (rfl) Tryz.sizeOf3 (by rw [hc_len rfl hj1]; omega) (by rw [← hc_set_n (m := n + kk) (n := n) rfl hj1, Int.natCast_add])) (Wd.u rfl) rfl (fun H6_8 r6_8 => ?_)
      obtain ⟨hv, hs6⟩ := r6_8
      replace hr := hr.up hs6 (fun _ _ h1 h2 => h1 h2)
      replace hm := hm.trans hs6 (fun _ _ e => e) (fun _ _ e => e)
      refine LR.nil ?_
      refine hK16 _ _ ?_
      refine CW.seq (fun K17 hK17 hE17 => ?_)
      refine CW.region ?_
      refine LR.v (Y.move rfl rfl) (Wd.u rfl) rfl rfl ?_
      refine LR.v (Y.move rfl rfl) (Wd.u rfl) rfl rfl ?_
      refine LR.e (g := fun v => v) (Y.slice hr (kk) (_) rfl Tryz.runUnderlying34 Tryz.sizeOf5 rfl (.inr ⟨_, _, _, rfl, rfl, by first | rfl | omega⟩) (.inl ⟨rfl, rfl⟩) (by omega) (by omega)) (Wd.u rfl) rfl rfl (fun v46 rd46 => ?_)
      rw [List.take_length] at rd46
      refine LR.v (Y.assign rfl rfl) (Wd.u rfl) rfl rfl ?_
      refine LR.nil ?_
      refine hK17 _ _ ?_
      refine CW.seq (fun K18 hK18 hE18 => ?_)
      refine CW.region ?_
      refine LR.v (Y.move rfl rfl) (Wd.u rfl) rfl rfl ?_
      refine LR.v (Y.nilCheck rfl rfl) (Wd.u rfl) rfl rfl ?_
      refine LR.v (Y.fieldAddr hv.pt rfl Tryz.runUnderlying211 rfl rfl Tryz.sizeOf3 (by decide) rfl) (Wd.u rfl) rfl rfl ?_
      refine LR.v (Y.load1 (hv.pt.at 72 (hc_n rfl hj1)) rfl Tryz.isAgg3 rfl) (Wd.u rfl) rfl rfl ?_
      refine LR.v (Y.eql rfl rfl rfl) (Wd.u rfl) rfl rfl ?_
      refine LR.nil ?_
      refine hK18 _ _ ?_
      refine CW.condp rfl (fun c51 => ?_) (fun c51 => ?_)
      ·
        refine CW.region ?_
        refine LR.v (Y.move rfl rfl) (Wd.u rfl) rfl rfl ?_
        -- call (*selvage/sum.Hash).block
        refine LR.call rfl Tryz.call149 rfl (Wd.u rfl) rfl rfl (block_ct hb _ _ _ _ w0 _ hv hj1) (fun v53 H53 r53 => ?_)
        obtain ⟨rfl, hv, hs53⟩ := r53
        replace rd46 := rd46.up hs53 (fun _ _ h1 h2 => h1 h2)
        replace hm := hm.trans hs53 (fun _ _ e => e) (fun _ _ e => e)
        refine LR.nil ?_
        refine hK14 _ _ ?_
        have hrn := run_full (x := r.take kk) (c := c) (wt := wt) hn hbuf hwt (by omega)
        refine QN.sub (hN11 (v46, r.drop kk, c ++ r.take kk, wt.take n ++ r.take kk ++ wt.drop (n + (r.take kk).length)) _ ?_ ?_) ⟨rfl, rfl, rfl, (iv (by omega)), (iv (by omega)), trivial⟩
        · exact ⟨hj1, by rw [hrn]; exact hv, by rw [hrn]; rfl, rd46, by rw [List.append_assoc, List.take_append_drop]; exact hc0, hm⟩
        · show (r.drop kk).length < r.length; rw [List.length_drop]; omega
      ·
        refine CW.skip ?_
        refine hK14 _ _ ?_
        have hrn := run_part (x := r.take kk) (c := c) (wt := wt) hn hbuf hwt (by omega)
        have hl2 : (wt.take n ++ r.take kk).length = n + kk := by rw [List.length_append, List.length_take]; omega
        refine QN.sub (hN11 (v46, r.drop kk, c ++ r.take kk, wt.take n ++ r.take kk ++ wt.drop (n + (r.take kk).length)) _ ?_ ?_) ⟨rfl, rfl, rfl, (iv (by omega)), (iv (by omega)), trivial⟩
        · exact ⟨hj1, by rw [hrn]; simp only; rw [hl2]; exact hv, by rw [hrn]; simp only; rw [hl2]; simpa only [hkl] using hj2, rd46, by rw [List.append_assoc, List.take_append_drop]; exact hc0, hm⟩
        · show (r.drop kk).length < r.length; rw [List.length_drop]; omega
    ·
      have hr0 : r = [] := List.eq_nil_of_length_eq_zero (by omega)
      subst hr0
      rw [List.append_nil] at hc0
      subst hc0
      refine CW.exit (hE12 (.exit 2) nofun _ _ (hE11 (.exit 2) nofun _ _ (hX10 _ _ ?_)))
      refine hK7 _ _ ?_
      refine hK6 _ _ ?_
      refine CW.region ?_
      refine LR.v (Y.addi rfl rfl rfl (by omega)) (Wd.u rfl) rfl rfl ?_
      refine LR.v (Y.move rfl rfl) (Wd.u rfl) rfl rfl ?_
      refine LR.nil ?_
      refine QN.sub (hN3 (k + 1) _ ?_ ?_) ⟨rfl, rfl, (iv (by omega)), (iv (by omega)), trivial⟩
      · exact ⟨by omega, ⟨wt, hwt, by rw [cat_take l k (by omega), ← List.append_assoc, List.length_append, UInt64.ofNat_add, ← UInt64.add_assoc]; exact hv, by rw [cat_take l k (by omega), ← List.append_assoc]; exact hbuf⟩, hm⟩
      · omega
  ·
    refine CW.exit (hE5 (.exit 0) nofun _ _ (hE3 (.exit 0) nofun _ _ (hX2 _ _ ?_)))
    refine hret .normal (.inl rfl) _ _ _ (res0 rfl) ?_
    have hkl : k = l.length := by omega
    subst hkl
    rw [List.take_length] at hS
    exact ⟨rfl, hS, hm⟩

end Go.Proofs.YtdliddjkacbggaaGreatDoor.SumD
/-
  The contracts of the document's sum.
-/
namespace Go.Proofs.YtdliddjkacbggaaGreatDoor.SumE
open Go.Proofs.YtdliddjkacbggaaGreatDoor.E Go.RowKit Go.Proofs.YtdliddjkacbggaaGreatDoor.SumA Go.Proofs.YtdliddjkacbggaaGreatDoor.SumB Go.Proofs.YtdliddjkacbggaaGreatDoor.SumC Go.Proofs.YtdliddjkacbggaaGreatDoor.SumD
set_option maxRecDepth 20000
set_option linter.unusedVariables false
set_option linter.unusedSimpArgs false
set_option linter.unusedSectionVars false
set_option maxRecDepth 100000 in
theorem inf34 : Inf Tryz.prog 34 5 1 1 := ⟨Tryz.underlying34, _, _, rfl, rfl, rfl, rfl, rfl⟩

/-- a number's n bytes, the highest first -/
def numL : Nat → UInt64 → List UInt8
  | 0, _ => []
  | j + 1, x => UInt8.ofNat (shrw_u64 x (8 * j)).toNat :: numL j x
theorem numL_len : ∀ (n : Nat) (x : UInt64), (numL n x).length = n
  | 0, _ => rfl
  | n + 1, x => by rw [numL, List.length_cons, numL_len]

end Go.Proofs.YtdliddjkacbggaaGreatDoor.SumE
/-
  The document's sum of a row of bytes.
-/
namespace Go.Proofs.YtdliddjkacbggaaGreatDoor.SumF
open Go.Proofs.YtdliddjkacbggaaGreatDoor.E Go.RowKit Go.Proofs.YtdliddjkacbggaaGreatDoor.SumA Go.Proofs.YtdliddjkacbggaaGreatDoor.SumB Go.Proofs.YtdliddjkacbggaaGreatDoor.SumC Go.Proofs.YtdliddjkacbggaaGreatDoor.SumD Go.Proofs.YtdliddjkacbggaaGreatDoor.SumE
set_option maxRecDepth 20000
set_option linter.unusedVariables false
set_option linter.unusedSimpArgs false
set_option linter.unusedSectionVars false
set_option maxRecDepth 100000 in
theorem inf34 : Inf Tryz.prog 34 5 1 1 := ⟨Tryz.underlying34, _, _, rfl, rfl, rfl, rfl, rfl⟩

def padZ (n : Nat) : Nat := (119 - n % 64) % 64
def padOf (n : Nat) : List UInt8 := 0x80 :: (List.replicate (padZ n) 0 ++ numL 8 (UInt64.ofNat (8 * n)))
def outL (s : List UInt32) : List UInt8 := (List.range 32).map (fun i => UInt8.ofNat (shrw_u32 (s.getD (i / 4) 0) (24 - 8 * (i % 4))).toNat)
theorem outL_len (s : List UInt32) : (outL s).length = 32 := by simp [outL]
/-- the sum of bytes -/
def sumOf (m : List UInt8) : List UInt8 := outL (run IV (m ++ padOf m.length)).1.list
theorem sumOf_len (m : List UInt8) : (sumOf m).length = 32 := outL_len _
theorem map_set8 (w : List UInt8) (j : Nat) (x : UInt8) : (w.map V8).set (0 + j) (V8 x) = (w.set j x).map V8 := by rw [Nat.zero_add, List.map_set]
theorem take8_succ (w r : List UInt8) (i : Nat) (x : UInt8) (h : w.take i = r.take i) (hi : i < w.length) (hr : r[i]? = some x) : (w.set i x).take (i + 1) = r.take (i + 1) := by
  have h2 := (List.getElem?_eq_some_iff.1 hr)
  obtain ⟨h3, h4⟩ := h2
  rw [take_set_succ _ _ _ hi, h, List.take_succ_eq_append_getElem h3, h4]
theorem outL_get (s : List UInt32) (i : Nat) (h : i < 32) : (outL s)[i]? = some (UInt8.ofNat (shrw_u32 (s.getD (i / 4) 0) (24 - 8 * (i % 4))).toNat) := by
  simp [outL, h]

end Go.Proofs.YtdliddjkacbggaaGreatDoor.SumF
/-
  The program's sum of rows of bytes.
-/
namespace Go.Proofs.YtdliddjkacbggaaGreatDoor.SumG
open Go.Proofs.YtdliddjkacbggaaGreatDoor.E Go.RowKit Go.Proofs.YtdliddjkacbggaaGreatDoor.SumA Go.Proofs.YtdliddjkacbggaaGreatDoor.SumB Go.Proofs.YtdliddjkacbggaaGreatDoor.SumC Go.Proofs.YtdliddjkacbggaaGreatDoor.SumD Go.Proofs.YtdliddjkacbggaaGreatDoor.SumE Go.Proofs.YtdliddjkacbggaaGreatDoor.SumF
set_option maxRecDepth 20000
set_option linter.unusedVariables false
set_option linter.unusedSimpArgs false
set_option linter.unusedSectionVars false
set_option maxRecDepth 100000 in
theorem inf22 : Inf Tryz.prog 22 34 1 24 := ⟨Tryz.underlying22, _, _, rfl, rfl, rfl, rfl, rfl⟩
set_option maxRecDepth 100000 in
theorem inf34 : Inf Tryz.prog 34 5 1 1 := ⟨Tryz.underlying34, _, _, rfl, rfl, rfl, rfl, rfl⟩

theorem zvHash : ∀ w, (zeroValue 211).run Tryz.prog w = .ok (.agg (hc (List.replicate 8 0) (List.replicate 64 0) 0 0).toArray) w := fun w => by kernel_rfl
theorem splice_all {cs vs : List Value} (h : cs.length = vs.length) : splice cs 0 vs = vs := by simp [splice, ← h]
theorem hc_one (s : List UInt32) (wt : List UInt8) (n : Nat) (al : UInt64) : ∀ u ∈ hc s wt n al, u.oneCell' = true := by
  intro u hu
  simp only [hc, List.mem_append, List.mem_map, List.mem_cons, List.not_mem_nil, or_false] at hu
  rcases hu with (⟨x, _, rfl⟩ | ⟨x, _, rfl⟩) | rfl | rfl <;> rfl
theorem run_mod_aux : ∀ (n : Nat) (s : S8) (b : List UInt8), b.length ≤ n → (run s b).2.length = b.length % 64 := by
  intro n
  induction n with
  | zero => intro s b h; rw [run_lt s b (by omega)]; simp only; omega
  | succ n ih =>
    intro s b h
    by_cases hb : b.length < 64
    · rw [run_lt s b hb]; simp only; omega
    · rw [run_ge s b (by omega), ih _ _ (by simp; omega)]; simp; omega
theorem run_mod (s : S8) (b : List UInt8) : (run s b).2.length = b.length % 64 := run_mod_aux _ s b (Nat.le_refl _)
theorem pad_set (z : Nat) : (List.replicate (1 + z) (0 : UInt8)).set 0 0x80 = 0x80 :: List.replicate z 0 := by rw [Nat.add_comm, List.replicate_succ, List.set_cons_zero]
theorem outL_at (s : List UInt32) (i k : Nat) (hi : i < 8) (hk : k < 4) : (outL s)[4 * i + k]? = some (UInt8.ofNat (shrw_u32 (s.getD i 0) (24 - 8 * k)).toNat) := by
  rw [outL_get s _ (by omega), show (4 * i + k) / 4 = i by omega, show (4 * i + k) % 4 = k by omega]

set_option maxHeartbeats 4000000 in
theorem psum_ct (hb : Nat) (m : List UInt8) (w0 : World) (H0 : Heap)
    (hS : HS H0 hb m (UInt64.ofNat m.length)) (hml : m.length ≤ 1099511627776) :
    Ct Tryz.prog w0 130 #[.pointer (some ⟨hb, 0, none⟩)] H0 (fun r H2 => r = .agg ((sumOf m).map V8).toArray ∧ Mo (fun c => False) H0 H2) := by
  refine Ct.enter (args := [.pointer (some ⟨hb, 0, none⟩)]) Tryz.func130 rfl rfl rfl ?_
  intro Q0 hret
  obtain ⟨wt, hwt, hv, hbuf⟩ := hS.ex
  have hn64 := run_rest IV m
  have hnm := run_mod IV m
  obtain ⟨n, hn⟩ : ∃ n, (run IV m).2.length = n := ⟨_, rfl⟩
  have hbuf0 := hbuf
  rw [hn] at hv hbuf hn64 hnm
  have hlt_hv := hv.lt
  have hlt_hS := hS.lt
  have hm0 : Mo (fun c => False) H0 H0 := Mo.refl _ _
  refine CW.seq (fun K1 hK1 hE1 => ?_)
  refine CW.region ?_
  refine LR.z (Z.allocv rfl Tryz.zeroValue165) (Wd.u rfl) rfl rfl (fun v2 H2 r2 => ?_)
  obtain ⟨rfl, va2, hs2, ob2, hH2⟩ := r2
  have hzs2 : H2.size = H0.size + 1 := by rw [hH2]; simp
  replace hv := hv.nw hs2
  replace hS := hS.nw hs2
  replace hm0 := hm0.trans hs2 (fun b hb0 hb1 => hb1) (fun b hb0 hb1 => hb1.elim)
  have hz1 := hs2.size
  have hlt_va2 := va2.lt
  replace va2 : Var 165 H2 H0.size ((List.replicate 32 (0 : UInt8)).map V8) := va2
  refine LR.nil ?_
  refine hK1 _ _ ?_
  refine CW.seq (fun K2 hK2 hE2 => ?_)
  refine CW.region ?_
  refine LR.v (Y.move rfl rfl) (Wd.u rfl) rfl rfl ?_
  refine LR.v (Y.nilCheck rfl rfl) (Wd.u rfl) rfl rfl ?_
  refine LR.v (Y.loadN hv.pt rfl Tryz.isAgg211 Tryz.sizeOf211 (hc_len rfl hwt) rfl) (Wd.u rfl) rfl rfl ?_
  refine LR.z (Z.allocv rfl zvHash) (Wd.u rfl) rfl rfl (fun v3 H3 r3 => ?_)
  obtain ⟨rfl, va3, hs3, ob3, hH3⟩ := r3
  have hzs3 : H3.size = H2.size + 1 := by rw [hH3]; simp
  replace hv := hv.nw hs3
  replace hS := hS.nw hs3
  replace hm0 := hm0.trans hs3 (fun b hb0 hb1 => hb1) (fun b hb0 hb1 => hb1.elim)
  replace va2 := va2.nw hs3
  have hz2 := hs3.size
  have hlt_va3 := va3.lt
  replace va3 : Var 211 H3 H2.size (hc (List.replicate 8 0) (List.replicate 64 0) 0 0) := va3
  refine LR.s (S.var va3 (hc (run IV m).1.list wt n (UInt64.ofNat m.length)) (hc (run IV m).1.list wt n (UInt64.ofNat m.length)) rfl rfl rfl rfl (hc_one _ _ _ _) Tryz.sizeOf211 (hc_len rfl hwt) (Nat.le_of_ble_eq_true rfl) (splice_all (by rw [hc_len (by simp) (by simp), hc_len rfl hwt]))) (Wd.u rfl) rfl (fun H1_4 r1_4 => ?_)
  obtain ⟨va3, hs1_4⟩ := r1_4
  replace hv := hv.up hs1_4 (by omega)
  replace hS := hS.up hs1_4 (by omega)
  replace hm0 := hm0.trans hs1_4 (fun b hb0 hb1 => hb1) (fun b hb0 hb1 => by omega)
  replace va2 := va2.up hs1_4 (by omega)
  have hz3 := hs1_4.size
  refine LR.nil ?_
  refine hK2 _ _ ?_
  refine CW.seq (fun K3 hK3 hE3 => ?_)
  have hpz : padZ m.length = (119 - m.length % 64) % 64 := rfl
  refine CW.region ?_
  refine LR.v (Y.fieldAddr va3.pt rfl Tryz.runUnderlying211 rfl rfl Tryz.sizeOf3 (by decide) rfl) (Wd.u rfl) rfl rfl ?_
  refine LR.v (Y.load1 (va3.pt.at 72 (hc_n rfl hwt)) rfl Tryz.isAgg3 rfl) (Wd.u rfl) rfl rfl ?_
  refine LR.v (Y.subi rfl rfl rfl (by omega)) (Wd.u rfl) rfl rfl ?_
  refine LR.v (Y.remi rfl rfl rfl (by omega)) (Wd.u rfl) rfl rfl ?_
  refine LR.v (Y.addi rfl rfl rfl (by omega)) (Wd.u rfl) rfl rfl ?_
  refine LR.z (Z.makew (1 + padZ m.length) ((0 : UInt8)) rfl inf34 Tryz.zeroValue5 rfl fB_len fB_one rfl rfl (by first | rfl | omega) (by omega) (by omega)) (Wd.u rfl) rfl rfl (fun v18 H18 r18 => ?_)
  obtain ⟨ow4, hs18, ob18, hH18⟩ := r18
  have hzs18 : H18.size = H1_4.size + 1 := by rw [hH18]; simp
  replace hv := hv.nw hs18
  replace hS := hS.nw hs18
  replace hm0 := hm0.trans hs18 (fun b hb0 hb1 => hb1) (fun b hb0 hb1 => hb1.elim)
  replace va2 := va2.nw hs18
  replace va3 := va3.nw hs18
  have hz4 := hs18.size
  have hle_ow4 := ow4.le
  refine LR.v (Y.assign rfl rfl) (Wd.u rfl) rfl rfl ?_
  refine LR.nil ?_
  refine hK3 _ _ ?_
  refine CW.seq (fun K4 hK4 hE4 => ?_)
  refine CW.region ?_
  refine LR.v (Y.move rfl rfl) (Wd.u rfl) rfl rfl ?_
  refine LR.v (Y.owAddr ow4 (0) rfl Tryz.runUnderlying34 Tryz.sizeOf5 rfl rfl (by first | rfl | omega) (by first | omega | (simp; omega) | (simp; done))) (Wd.u rfl) rfl rfl ?_
  refine LR.s (S.oww ow4 (0) 0 ((0x80 : UInt8)) rfl rfl rfl rfl Tryz.sizeOf5 (by first | omega | (simp; omega) | (simp; done)) (by decide) (rfl)) (Wd.u rfl) rfl (fun H3_2 r3_2 => ?_)
  obtain ⟨ow4, hs3_2⟩ := r3_2
  replace hv := hv.up hs3_2 (by omega)
  replace hS := hS.up hs3_2 (by omega)
  replace hm0 := hm0.trans hs3_2 (fun b hb0 hb1 => hb1) (fun b hb0 hb1 => by omega)
  replace va2 := va2.up hs3_2 (by omega)
  replace va3 := va3.up hs3_2 (by omega)
  have hz5 := hs3_2.size
  rw [pad_set] at ow4
  refine LR.nil ?_
  refine hK4 _ _ ?_
  refine CW.seq (fun K5 hK5 hE5 => ?_)
  refine CW.seq (fun K6 hK6 hE6 => ?_)
  refine CW.region ?_
  refine LR.v (Y.assign rfl rfl) (Wd.u rfl) rfl rfl ?_
  refine LR.nil ?_
  refine hK6 _ _ ?_
  refine CW.block (fun K7 hK7 hX7 hE7 => ?_)
  refine CW.loop (fun (s_ : (Nat) × (Value) × (Nat) × (List UInt8)) => match s_ with | (j, v', k', ys) => [(0, .pointer (some ⟨hb, 0, none⟩)), (2, .pointer (some ⟨H0.size, 0, none⟩)), (3, .pointer (some ⟨H2.size, 0, none⟩)), (4, v'), (5, .int .i64 (8 * (j : Int) - 8))])
    (fun (s_ : (Nat) × (Value) × (Nat) × (List UInt8)) (H : Heap) => match s_ with | (j, v', k', ys) => (j ≤ 8) ∧ (Ow k' 5 H fB 1 v' ys) ∧ (k' = 0 ∨ k' = H1_4.size + 1 ∨ H3_2.size < k') ∧ (ys ++ numL j (UInt64.ofNat (8 * m.length)) = (0x80 :: List.replicate (padZ m.length) (0 : UInt8)) ++ numL 8 (UInt64.ofNat (8 * m.length))) ∧ Mo (fun c => c = H1_4.size) H3_2 H)
    (fun (s_ : (Nat) × (Value) × (Nat) × (List UInt8)) => match s_ with | (j, v', k', ys) => j) (8, v18, H1_4.size + 1, (0x80 :: List.replicate (padZ m.length) (0 : UInt8))) ⟨rfl, rfl, rfl, rfl, rfl, trivial⟩ ?_ ?_
  ·
    exact ⟨(by omega), ow4, (by omega), rfl, Mo.refl _ _⟩
  rintro ⟨j, v', k', ys⟩ HL1 hI1 K8 hN8 hE8
  obtain ⟨hj, ow4, hk, hys, hlm1⟩ := hI1
  replace hv := hv.up hlm1 (by omega)
  replace hS := hS.up hlm1 (by omega)
  replace hm0 := hm0.trans hlm1 (fun b hb0 hb1 => hb1) (fun b hb0 hb1 => by omega)
  replace va2 := va2.up hlm1 (by omega)
  replace va3 := va3.up hlm1 (by omega)
  have hz6 := hlm1.size
  have hle_ow4 := ow4.le
  have hyl : ys.length + j = padZ m.length + 9 := by have := congrArg List.length hys; simpa [numL_len] using this
  have hpz2 : padZ m.length < 64 := by rw [padZ]; omega
  refine CW.seq (fun K9 hK9 hE9 => ?_)
  refine CW.seq (fun K10 hK10 hE10 => ?_)
  refine CW.region ?_
  refine LR.v (Y.move rfl rfl) (Wd.u rfl) rfl rfl ?_
  refine LR.v (Y.geq rfl rfl rfl) (Wd.u rfl) rfl rfl ?_
  refine LR.nil ?_
  refine hK10 _ _ ?_
  refine CW.condp rfl (fun c22 => ?_) (fun c22 => ?_)
  ·
    obtain ⟨j, rfl⟩ : ∃ q, j = q + 1 := ⟨j - 1, by omega⟩
    refine CW.skip ?_
    refine hK9 _ _ ?_
    refine CW.seq (fun K11 hK11 hE11 => ?_)
    refine CW.block (fun K12 hK12 hX12 hE12 => ?_)
    refine CW.region ?_
    refine LR.v (Y.move rfl rfl) (Wd.u rfl) rfl rfl ?_
    refine LR.v (Y.move rfl rfl) (Wd.u rfl) rfl rfl ?_
    refine LR.v (Y.nilCheck rfl rfl) (Wd.u rfl) rfl rfl ?_
    refine LR.v (Y.fieldAddr hv.pt rfl Tryz.runUnderlying211 rfl rfl Tryz.sizeOf151 (by decide) rfl) (Wd.u rfl) rfl rfl ?_
    refine LR.v (Y.load1 (hv.pt.at 73 (hc_all rfl hwt)) rfl Tryz.isAgg151 rfl) (Wd.u rfl) rfl rfl ?_
    refine LR.v (Y.cast (v2 := .int .u64 (UInt64.ofNat (8 * m.length)).toNat) (Y.mul_u64 (b := (UInt64.ofNat 8)) rfl rfl rfl) (by rw [← UInt64.ofNat_mul, Nat.mul_comm])) (Wd.u rfl) rfl rfl ?_
    refine LR.v (Y.move rfl rfl) (Wd.u rfl) rfl rfl ?_
    refine LR.v (Y.shr_u64 (8 * j) rfl rfl rfl (by first | rfl | omega) (by omega)) (Wd.u rfl) rfl rfl ?_
    refine LR.v (Y.conv_u8 rfl Tryz.runUnderlying151 Tryz.runUnderlying5 rfl) (Wd.u rfl) rfl rfl ?_
    refine LR.z (Z.litw _ ([UInt8.ofNat (shrw_u64 (UInt64.ofNat (8 * m.length)) (8 * j)).toNat]) rfl inf34 rfl rfl rfl (by decide) (by decide) fB_len fB_one (rfl)) (Wd.u rfl) rfl rfl (fun v34 H34 r34 => ?_)
    obtain ⟨ow34, hs34, ob34, hH34⟩ := r34
    have hzs34 : H34.size = HL1.size + 1 := by rw [hH34]; simp
    replace hv := hv.nw hs34
    replace hS := hS.nw hs34
    replace hm0 := hm0.trans hs34 (fun b hb0 hb1 => hb1) (fun b hb0 hb1 => hb1.elim)
    replace va2 := va2.nw hs34
    replace va3 := va3.nw hs34
    replace ow4 := ow4.nw hs34
    try replace hlm1 := hlm1.trans hs34 (fun b hb0 hb1 => hb1) (fun b hb0 hb1 => hb1.elim)
    have hz7 := hs34.size
    have hle_ow34 := ow34.le
    refine LR.z (Z.apnd ow4 ow34.rd rfl inf34 rfl rfl (by first | omega | (simp; omega)) (by first | omega | (simp; omega))) (Wd.u rfl) rfl rfl (fun v35 H35 r35 => ?_)
    obtain ⟨k35, ow35, hk35, hs35⟩ := r35
    replace hv := hv.up hs35 (by omega)
    replace hS := hS.up hs35 (by omega)
    replace hm0 := hm0.trans hs35 (fun b hb0 hb1 => hb1) (fun b hb0 hb1 => by omega)
    replace va2 := va2.up hs35 (by omega)
    replace va3 := va3.up hs35 (by omega)
    try replace hlm1 := hlm1.trans hs35 (fun b hb0 hb1 => hb1) (fun b hb0 hb1 => by omega)
    replace ow34 := ow34.up hs35 (fun b hb0 hb1 hb2 => by omega)
    have hz8 := hs35.size
    have hle_ow35 := ow35.le
    refine LR.v (Y.assign rfl rfl) (Wd.u rfl) rfl rfl ?_
    refine LR.nil ?_
    refine hK12 _ _ ?_
    refine hK11 _ _ ?_
    refine CW.region ?_
    refine LR.v (Y.move rfl rfl) (Wd.u rfl) rfl rfl ?_
    refine LR.v (Y.subi rfl rfl rfl (by omega)) (Wd.u rfl) rfl rfl ?_
    refine LR.v (Y.assign rfl rfl) (Wd.u rfl) rfl rfl ?_
    refine LR.nil ?_
    refine QN.sub (hN8 (j, v35, k35, ys ++ [UInt8.ofNat (shrw_u64 (UInt64.ofNat (8 * m.length)) (8 * j)).toNat]) _ ?_ ?_) ⟨rfl, rfl, rfl, rfl, (iv (by omega)), trivial⟩
    · exact ⟨(by omega), ow35, (by omega), by rw [← hys, List.append_assoc]; rfl, hlm1⟩
    · first | omega | (simp only; omega) | (simp; omega)
  ·
    obtain rfl : j = 0 := by omega
    rw [numL, List.append_nil] at hys
    replace hys : ys = padOf m.length := by rw [hys]; rfl
    subst hys
    refine CW.exit (hE9 (.exit 0) nofun _ _ (hE8 (.exit 0) nofun _ _ (hX7 _ _ ?_)))
    refine hK5 _ _ ?_
    refine CW.seq (fun K13 hK13 hE13 => ?_)
    refine CW.region ?_
    refine LR.v (Y.move rfl rfl) (Wd.u rfl) rfl rfl ?_
    refine LR.z (Z.litw _ ([((toSV v', padOf m.length) : SV × List UInt8)]) rfl inf22 rfl rfl rfl (by decide) (by decide) fP_len fP_one (by simp only [List.map_cons, List.map_nil, fP]; rw [ow4.sv, ow4.rd.cells1])) (Wd.u rfl) rfl rfl (fun v37 H37 r37 => ?_)
    obtain ⟨ow37, hs37, ob37, hH37⟩ := r37
    have hzs37 : H37.size = HL1.size + 1 := by rw [hH37]; simp
    replace hv := hv.nw hs37
    replace hS := hS.nw hs37
    replace hm0 := hm0.trans hs37 (fun b hb0 hb1 => hb1) (fun b hb0 hb1 => hb1.elim)
    replace va2 := va2.nw hs37
    replace va3 := va3.nw hs37
    replace ow4 := ow4.nw hs37
    have hz9 := hs37.size
    have hle_ow37 := ow37.le
    -- call (*selvage/sum.Hash).Write
    refine LR.call rfl Tryz.call129 rfl (Wd.u rfl) rfl rfl (write_ct H2.size _ m (UInt64.ofNat m.length) [((toSV v', padOf m.length) : SV × List UInt8)] w0 _ ⟨wt, hwt, hn ▸ va3, hbuf0⟩ (ow37.rd.imp (fun b _ h => by omega)) (by intro x hx; simp only [List.mem_singleton] at hx; subst hx; simp only; rw [ow4.sv]; exact ow4.rd.imp (fun b _ h => by omega))) (fun v38 H38 r38 => ?_)
    obtain ⟨rfl, hS3, hs38⟩ := r38
    have hct : m ++ cat [((toSV v', padOf m.length) : SV × List UInt8)] = m ++ padOf m.length := by simp [cat]
    rw [hct] at hS3
    obtain ⟨wt3, hwt3, va3, hbuf3⟩ := hS3.ex
    replace hv := hv.up hs38 (by omega)
    replace hS := hS.up hs38 (by omega)
    replace hm0 := hm0.trans hs38 (fun b hb0 hb1 => hb1) (fun b hb0 hb1 => by omega)
    replace va2 := va2.up hs38 (by omega)
    replace ow4 := ow4.up hs38 (fun b hb0 hb1 hb2 => by omega)
    replace ow37 := ow37.up hs38 (fun b hb0 hb1 hb2 => by omega)
    have hz10 := hs38.size
    refine LR.nil ?_
    refine hK13 _ _ ?_
    refine CW.seq (fun K14 hK14 hE14 => ?_)
    refine CW.region ?_
    refine LR.z (Z.allocv rfl Tryz.zeroValue165) (Wd.u rfl) rfl rfl (fun v6 H6 r6 => ?_)
    obtain ⟨rfl, va6, hs6, ob6, hH6⟩ := r6
    have hzs6 : H6.size = H38.size + 1 := by rw [hH6]; simp
    replace hv := hv.nw hs6
    replace hS := hS.nw hs6
    replace hm0 := hm0.trans hs6 (fun b hb0 hb1 => hb1) (fun b hb0 hb1 => hb1.elim)
    replace va2 := va2.nw hs6
    replace va3 := va3.nw hs6
    replace ow4 := ow4.nw hs6
    replace ow37 := ow37.nw hs6
    have hz11 := hs6.size
    have hlt_va6 := va6.lt
    replace va6 : Var 165 H6 H38.size ((List.replicate 32 (0 : UInt8)).map V8) := va6
    refine LR.nil ?_
    refine hK14 _ _ ?_
    refine CW.seq (fun K15 hK15 hE15 => ?_)
    refine CW.seq (fun K16 hK16 hE16 => ?_)
    refine CW.region ?_
    refine LR.v (Y.fieldAddr va3.pt rfl Tryz.runUnderlying211 rfl rfl Tryz.sizeOf187 (by decide) rfl) (Wd.u rfl) rfl rfl ?_
    refine LR.v (Y.cast (v2 := .agg ((run IV (m ++ padOf m.length)).1.list.map V32).toArray) (Y.loadN (va3.pt.take 8) rfl Tryz.isAgg187 Tryz.sizeOf187 (rfl) rfl) (rfl)) (Wd.u rfl) rfl rfl ?_
    refine LR.v (Y.move rfl rfl) (Wd.u rfl) rfl rfl ?_
    refine LR.nil ?_
    refine hK16 _ _ ?_
    refine CW.block (fun K17 hK17 hX17 hE17 => ?_)
    refine CW.loop (fun (s_ : (Nat) × (List UInt8)) => match s_ with | (i, o) => [(2, .pointer (some ⟨H0.size, 0, none⟩)), (6, .pointer (some ⟨H38.size, 0, none⟩)), (40, .agg ((run IV (m ++ padOf m.length)).1.list.map V32).toArray), (41, .int .i64 i)])
      (fun (s_ : (Nat) × (List UInt8)) (H : Heap) => match s_ with | (i, o) => (i ≤ 8) ∧ (o.length = 32) ∧ (o.take (4 * i) = (outL (run IV (m ++ padOf m.length)).1.list).take (4 * i)) ∧ (Var 165 H H38.size (o.map V8)) ∧ Mo (fun c => c = H38.size) H6 H)
      (fun (s_ : (Nat) × (List UInt8)) => match s_ with | (i, o) => 8 - i) (0, List.replicate 32 0) ⟨rfl, rfl, rfl, rfl, trivial⟩ ?_ ?_
    ·
      exact ⟨(by omega), by simp, by simp, va6, Mo.refl _ _⟩
    rintro ⟨i, o⟩ HL2 hI2 K18 hN18 hE18
    obtain ⟨hi, hol, hot, va6, hlm2⟩ := hI2
    replace hv := hv.up hlm2 (by omega)
    replace hS := hS.up hlm2 (by omega)
    replace hm0 := hm0.trans hlm2 (fun b hb0 hb1 => hb1) (fun b hb0 hb1 => by omega)
    replace va2 := va2.up hlm2 (by omega)
    replace va3 := va3.up hlm2 (by omega)
    replace ow4 := ow4.up hlm2 (fun b hb0 hb1 hb2 => by omega)
    replace ow37 := ow37.up hlm2 (fun b hb0 hb1 hb2 => by omega)
    have hz12 := hlm2.size
    have hlt_va6 := va6.lt
    refine CW.seq (fun K19 hK19 hE19 => ?_)
    refine CW.region ?_
    refine LR.v (Y.lss rfl rfl rfl) (Wd.u rfl) rfl rfl ?_
    refine LR.nil ?_
    refine hK19 _ _ ?_
    refine CW.seq (fun K20 hK20 hE20 => ?_)
    refine CW.condp rfl (fun c42 => ?_) (fun c42 => ?_)
    ·
      refine CW.skip ?_
      refine hK20 _ _ ?_
      refine CW.seq (fun K21 hK21 hE21 => ?_)
      refine CW.block (fun K22 hK22 hX22 hE22 => ?_)
      refine CW.seq (fun K23 hK23 hE23 => ?_)
      refine CW.region ?_
      refine LR.v (Y.move rfl rfl) (Wd.u rfl) rfl rfl ?_
      refine LR.v (Y.arrIndex (i) rfl Tryz.runUnderlying187 Tryz.sizeOf185 Tryz.isAgg185 rfl rfl (by first | rfl | omega) (by omega) ((by rw [List.getElem?_toArray]; exact map_get (run IV (m ++ padOf m.length)).1.list i (by simp; omega)))) (Wd.u rfl) rfl rfl ?_
      refine LR.v (Y.assign rfl rfl) (Wd.u rfl) rfl rfl ?_
      refine LR.v (Y.assign rfl rfl) (Wd.u rfl) rfl rfl ?_
      refine LR.nil ?_
      refine hK23 _ _ ?_
      refine CW.seq (fun K24 hK24 hE24 => ?_)
      refine CW.region ?_
      refine LR.v (Y.move rfl rfl) (Wd.u rfl) rfl rfl ?_
      refine LR.nil ?_
      refine hK24 _ _ ?_
      refine CW.block (fun K25 hK25 hX25 hE25 => ?_)
      refine CW.loop (fun (s_ : (Nat) × (List UInt8)) => match s_ with | (k, o) => [(2, .pointer (some ⟨H0.size, 0, none⟩)), (6, .pointer (some ⟨H38.size, 0, none⟩)), (7, .int .i64 i), (8, .int .u32 ((run IV (m ++ padOf m.length)).1.list.getD i 0).toNat), (40, .agg ((run IV (m ++ padOf m.length)).1.list.map V32).toArray), (41, .int .i64 i), (45, .int .i64 k)])
        (fun (s_ : (Nat) × (List UInt8)) (H : Heap) => match s_ with | (k, o) => (k ≤ 4) ∧ (o.length = 32) ∧ (o.take (4 * i + k) = (outL (run IV (m ++ padOf m.length)).1.list).take (4 * i + k)) ∧ (Var 165 H H38.size (o.map V8)) ∧ Mo (fun c => c = H38.size) HL2 H)
        (fun (s_ : (Nat) × (List UInt8)) => match s_ with | (k, o) => 4 - k) (0, o) ⟨rfl, rfl, rfl, rfl, rfl, rfl, rfl, trivial⟩ ?_ ?_
      ·
        exact ⟨(by omega), hol, hot, va6, Mo.refl _ _⟩
      rintro ⟨k, o⟩ HL3 hI3 K26 hN26 hE26
      obtain ⟨hk4, hol, hot, va6, hlm3⟩ := hI3
      replace hv := hv.up hlm3 (by omega)
      replace hS := hS.up hlm3 (by omega)
      replace hm0 := hm0.trans hlm3 (fun b hb0 hb1 => hb1) (fun b hb0 hb1 => by omega)
      replace va2 := va2.up hlm3 (by omega)
      replace va3 := va3.up hlm3 (by omega)
      replace ow4 := ow4.up hlm3 (fun b hb0 hb1 hb2 => by omega)
      replace ow37 := ow37.up hlm3 (fun b hb0 hb1 hb2 => by omega)
      try replace hlm2 := hlm2.trans hlm3 (fun b hb0 hb1 => hb1) (fun b hb0 hb1 => by omega)
      have hz13 := hlm3.size
      have hlt_va6 := va6.lt
      refine CW.seq (fun K27 hK27 hE27 => ?_)
      refine CW.region ?_
      refine LR.v (Y.lss rfl rfl rfl) (Wd.u rfl) rfl rfl ?_
      refine LR.nil ?_
      refine hK27 _ _ ?_
      refine CW.seq (fun K28 hK28 hE28 => ?_)
      refine CW.condp rfl (fun c46 => ?_) (fun c46 => ?_)
      ·
        refine CW.skip ?_
        refine hK28 _ _ ?_
        refine CW.seq (fun K29 hK29 hE29 => ?_)
        refine CW.block (fun K30 hK30 hX30 hE30 => ?_)
        refine CW.seq (fun K31 hK31 hE31 => ?_)
        refine CW.region ?_
        refine LR.v (Y.move rfl rfl) (Wd.u rfl) rfl rfl ?_
        refine LR.v (Y.assign rfl rfl) (Wd.u rfl) rfl rfl ?_
        refine LR.nil ?_
        refine hK31 _ _ ?_
        refine CW.region ?_
        refine LR.v (Y.move rfl rfl) (Wd.u rfl) rfl rfl ?_
        refine LR.v (Y.muli rfl rfl rfl (by omega)) (Wd.u rfl) rfl rfl ?_
        refine LR.v (Y.move rfl rfl) (Wd.u rfl) rfl rfl ?_
        refine LR.v (Y.addi rfl rfl rfl (by omega)) (Wd.u rfl) rfl rfl ?_
        refine LR.v (Y.move rfl rfl) (Wd.u rfl) rfl rfl ?_
        refine LR.v (Y.move rfl rfl) (Wd.u rfl) rfl rfl ?_
        refine LR.v (Y.muli rfl rfl rfl (by omega)) (Wd.u rfl) rfl rfl ?_
        refine LR.v (Y.subi rfl rfl rfl (by omega)) (Wd.u rfl) rfl rfl ?_
        refine LR.v (Y.shr_u32 (24 - 8 * k) rfl rfl rfl (by omega) (by omega)) (Wd.u rfl) rfl rfl ?_
        refine LR.v (Y.conv_u8 rfl Tryz.runUnderlying185 Tryz.runUnderlying5 rfl) (Wd.u rfl) rfl rfl ?_
        refine LR.v (Y.arrAddr va6.pt (4 * i + k) rfl Tryz.runUnderlying165 Tryz.sizeOf5 rfl rfl (by first | rfl | omega) (by first | omega | (simp; omega) | (simp; done))) (Wd.u rfl) rfl rfl ?_
        refine LR.s (S.var1 va6 (0 + (4 * i + k)) (_) rfl rfl rfl (rfl) Tryz.sizeOf5 (by simp; omega) (map_set8 o (4 * i + k) _)) (Wd.u rfl) rfl (fun H16_11 r16_11 => ?_)
        obtain ⟨va6, hs16_11⟩ := r16_11
        replace hv := hv.up hs16_11 (by omega)
        replace hS := hS.up hs16_11 (by omega)
        replace hm0 := hm0.trans hs16_11 (fun b hb0 hb1 => hb1) (fun b hb0 hb1 => by omega)
        replace va2 := va2.up hs16_11 (by omega)
        replace va3 := va3.up hs16_11 (by omega)
        replace ow4 := ow4.up hs16_11 (fun b hb0 hb1 hb2 => by omega)
        replace ow37 := ow37.up hs16_11 (fun b hb0 hb1 hb2 => by omega)
        try replace hlm2 := hlm2.trans hs16_11 (fun b hb0 hb1 => hb1) (fun b hb0 hb1 => by omega)
        try replace hlm3 := hlm3.trans hs16_11 (fun b hb0 hb1 => hb1) (fun b hb0 hb1 => by omega)
        have hz14 := hs16_11.size
        refine LR.nil ?_
        refine hK30 _ _ ?_
        refine hK29 _ _ ?_
        refine CW.region ?_
        refine LR.v (Y.addi rfl rfl rfl (by omega)) (Wd.u rfl) rfl rfl ?_
        refine LR.v (Y.move rfl rfl) (Wd.u rfl) rfl rfl ?_
        refine LR.nil ?_
        refine QN.sub (hN26 (k + 1, o.set (4 * i + k) (UInt8.ofNat (shrw_u32 ((run IV (m ++ padOf m.length)).1.list.getD i 0) (24 - 8 * k)).toNat)) _ ?_ ?_) ⟨rfl, rfl, (iv (by omega)), (iv (by omega)), rfl, (iv (by omega)), (iv (by omega)), trivial⟩
        · exact ⟨(by omega), by simp [hol], take8_succ o _ (4 * i + k) _ hot (by omega) (outL_at _ i k (by omega) (by omega)), va6, hlm3⟩
        · first | omega | (simp only; omega) | (simp; omega)
      ·
        obtain rfl : k = 4 := by omega
        rw [show 4 * i + 4 = 4 * (i + 1) by omega] at hot
        refine CW.exit (hE28 (.exit 4) nofun _ _ (hE26 (.exit 4) nofun _ _ (hX25 _ _ ?_)))
        refine hK22 _ _ ?_
        refine hK21 _ _ ?_
        refine CW.region ?_
        refine LR.v (Y.addi rfl rfl rfl (by omega)) (Wd.u rfl) rfl rfl ?_
        refine LR.v (Y.move rfl rfl) (Wd.u rfl) rfl rfl ?_
        refine LR.nil ?_
        refine QN.sub (hN18 (i + 1, o) _ ?_ ?_) ⟨rfl, rfl, rfl, (iv (by omega)), trivial⟩
        · exact ⟨(by omega), hol, hot, va6, hlm2⟩
        · first | omega | (simp only; omega) | (simp; omega)
    ·
      obtain rfl : i = 8 := by omega
      rw [List.take_of_length_le (by omega), List.take_of_length_le (by rw [outL_len]; omega), show outL (run IV (m ++ padOf m.length)).1.list = sumOf m from rfl] at hot
      subst hot
      refine CW.exit (hE20 (.exit 2) nofun _ _ (hE18 (.exit 2) nofun _ _ (hX17 _ _ ?_)))
      refine hK15 _ _ ?_
      refine CW.seq (fun K32 hK32 hE32 => ?_)
      refine CW.region ?_
      refine LR.v (Y.loadN va6.pt rfl Tryz.isAgg165 Tryz.sizeOf165 (rfl) rfl) (Wd.u rfl) rfl rfl ?_
      refine LR.s (S.var va2 ((sumOf m).map V8) ((sumOf m).map V8) rfl rfl rfl rfl (by intro u hu; obtain ⟨x, _, rfl⟩ := List.mem_map.1 hu; rfl) Tryz.sizeOf165 (rfl) (by simp [sumOf_len]) (by simp [splice, sumOf_len])) (Wd.u rfl) rfl (fun H19_1 r19_1 => ?_)
      obtain ⟨va2, hs19_1⟩ := r19_1
      replace hv := hv.up hs19_1 (by omega)
      replace hS := hS.up hs19_1 (by omega)
      replace hm0 := hm0.trans hs19_1 (fun b hb0 hb1 => hb1) (fun b hb0 hb1 => by omega)
      replace va3 := va3.up hs19_1 (by omega)
      replace ow4 := ow4.up hs19_1 (fun b hb0 hb1 hb2 => by omega)
      replace ow37 := ow37.up hs19_1 (fun b hb0 hb1 hb2 => by omega)
      replace va6 := va6.up hs19_1 (by omega)
      have hz15 := hs19_1.size
      refine LR.nil ?_
      refine hK32 _ _ ?_
      refine CW.ret (hret .ret (.inr rfl) _ _ _ (resC rfl rfl va2.pt Tryz.isAgg165 Tryz.sizeOf165 (by first | rfl | simp)) ?_)
      exact ⟨rfl, hm0⟩


theorem ofNat_zero_add (n : Nat) : (0 : UInt64) + UInt64.ofNat n = UInt64.ofNat n := by simp

theorem pof_ct (vl : Value) (l : List (SV × List UInt8)) (w0 : World) (H0 : Heap)
    (hl : RdT H0 fP 1 vl l) (hx : ∀ x ∈ l, RdT H0 fB 1 x.1.v x.2) (hml : (cat l).length ≤ 1099511627776) :
    Ct Tryz.prog w0 111 #[vl] H0 (fun r H2 => r = .agg ((sumOf (cat l)).map V8).toArray ∧ Mo (fun c => False) H0 H2) := by
  refine Ct.enter (args := [vl]) Tryz.func111 rfl rfl rfl ?_
  intro Q0 hret
  replace hl := hl.lt
  replace hx := fun x hx0 => (hx x hx0).lt
  have hm0 : Mo (fun c => False) H0 H0 := Mo.refl _ _
  refine CW.seq (fun K1 hK1 hE1 => ?_)
  refine CW.region ?_
  refine LR.z (Z.allocv rfl Tryz.zeroValue165) (Wd.u rfl) rfl rfl (fun v2 H2 r2 => ?_)
  obtain ⟨rfl, va2, hs2, ob2, hH2⟩ := r2
  have hzs2 : H2.size = H0.size + 1 := by rw [hH2]; simp
  replace hl := hl.nw hs2
  replace hx := fun x hx0 => (hx x hx0).up hs2 (fun b hb0 hb1 hb2 => hb2)
  replace hm0 := hm0.trans hs2 (fun b hb0 hb1 => hb1) (fun b hb0 hb1 => hb1.elim)
  have hz1 := hs2.size
  have hlt_va2 := va2.lt
  replace va2 : Var 165 H2 H0.size ((List.replicate 32 (0 : UInt8)).map V8) := va2
  refine LR.nil ?_
  refine hK1 _ _ ?_
  refine CW.seq (fun K2 hK2 hE2 => ?_)
  refine CW.region ?_
  -- call selvage/sum.New
  refine LR.call rfl Tryz.call128 rfl (Wd.u rfl) rfl rfl (new_ct w0 _) (fun v4 H4 r4 => ?_)
  obtain ⟨rfl, hS, hs4, hz4⟩ := r4
  replace hl := hl.nw hs4
  replace hx := fun x hx0 => (hx x hx0).up hs4 (fun b hb0 hb1 hb2 => hb2)
  replace hm0 := hm0.trans hs4 (fun b hb0 hb1 => hb1) (fun b hb0 hb1 => hb1.elim)
  replace va2 := va2.nw hs4
  have hz2 := hs4.size
  refine LR.v (Y.assign rfl rfl) (Wd.u rfl) rfl rfl ?_
  refine LR.nil ?_
  refine hK2 _ _ ?_
  refine CW.seq (fun K3 hK3 hE3 => ?_)
  refine CW.region ?_
  refine LR.v (Y.move rfl rfl) (Wd.u rfl) rfl rfl ?_
  refine LR.v (Y.move rfl rfl) (Wd.u rfl) rfl rfl ?_
  have hSl := hS.lt
  -- call (*selvage/sum.Hash).Write
  refine LR.call rfl Tryz.call129 rfl (Wd.u rfl) rfl rfl (write_ct H2.size _ [] 0 l w0 _ hS (hl.imp (fun b _ h => by omega)) (fun x hx0 => (hx x hx0).imp (fun b _ h => by omega))) (fun v7 H7 r7 => ?_)
  obtain ⟨rfl, hS, hs7⟩ := r7
  rw [List.nil_append, ofNat_zero_add] at hS
  replace hl := hl.up hs7 (fun b hb0 hb1 hb2 => by omega)
  replace hx := fun x hx0 => (hx x hx0).up hs7 (fun b hb0 hb1 hb2 => by omega)
  replace hm0 := hm0.trans hs7 (fun b hb0 hb1 => hb1) (fun b hb0 hb1 => by omega)
  replace va2 := va2.up hs7 (by omega)
  have hz3 := hs7.size
  refine LR.nil ?_
  refine hK3 _ _ ?_
  refine CW.seq (fun K4 hK4 hE4 => ?_)
  refine CW.region ?_
  refine LR.v (Y.move rfl rfl) (Wd.u rfl) rfl rfl ?_
  -- call (*selvage/sum.Hash).Sum
  refine LR.call rfl Tryz.call130 rfl (Wd.u rfl) rfl rfl (psum_ct _ (cat l) w0 _ hS hml) (fun v9 H9 r9 => ?_)
  obtain ⟨rfl, hs9⟩ := r9
  replace hl := hl.nw hs9
  replace hx := fun x hx0 => (hx x hx0).up hs9 (fun b hb0 hb1 hb2 => hb2)
  replace hm0 := hm0.trans hs9 (fun b hb0 hb1 => hb1) (fun b hb0 hb1 => hb1.elim)
  replace va2 := va2.nw hs9
  have hz4 := hs9.size
  refine LR.s (S.var va2 ((sumOf (cat l)).map V8) ((sumOf (cat l)).map V8) rfl rfl rfl rfl (by intro u hu; obtain ⟨x, _, rfl⟩ := List.mem_map.1 hu; rfl) Tryz.sizeOf165 (rfl) (by simp [sumOf_len]) (by simp [splice, sumOf_len])) (Wd.u rfl) rfl (fun H3_2 r3_2 => ?_)
  obtain ⟨va2, hs3_2⟩ := r3_2
  replace hl := hl.up hs3_2 (fun b hb0 hb1 hb2 => by omega)
  replace hx := fun x hx0 => (hx x hx0).up hs3_2 (fun b hb0 hb1 hb2 => by omega)
  replace hm0 := hm0.trans hs3_2 (fun b hb0 hb1 => hb1) (fun b hb0 hb1 => by omega)
  have hz5 := hs3_2.size
  refine LR.nil ?_
  refine hK4 _ _ ?_
  refine CW.ret (hret .ret (.inr rfl) _ _ _ (resC rfl rfl va2.pt Tryz.isAgg165 Tryz.sizeOf165 (by first | rfl | simp)) ?_)
  exact ⟨rfl, hm0⟩

end Go.Proofs.YtdliddjkacbggaaGreatDoor.SumG
/-
  Maps that are ours, told by their block's number: for program-printed bookkeeping: no condition.
-/
namespace Go.Proofs.YtdliddjkacbggaaGreatDoor.E
open Go.MapKept
set_option linter.unusedVariables false
set_option linter.unusedSimpArgs false
set_option linter.unusedSectionVars false
/-- the block b is a map that holds m -/
structure Mp {κ β : Type} (H : Heap) (fk : κ → Value) (fv : β → Value) (b : Nat) (m : List (κ × β)) : Prop where
  mo : MapOf (fun x => x = b) H fk fv (.map (some b)) m
section
variable {κ β : Type} {H H' : Heap} {fk : κ → Value} {fv : β → Value} {b k : Nat} {m : List (κ × β)} {ks : List Nat}
theorem Mp.lt (h : Mp H fk fv b m) : b < H.size := h.mo.blk_lt
theorem Mp.up {S : Nat → Prop} (h : Mp H fk fv b m) (s : Mo S H H') (hS : ¬ S b) : Mp H' fk fv b m := ⟨h.mo.up s (fun x _ e h2 => hS (by rw [← e]; exact h2))⟩
theorem Mp.nw (h : Mp H fk fv b m) (s : Nw H H') : Mp H' fk fv b m := ⟨h.mo.nw s⟩
theorem Mp.upL (x : Mp H fk fv b m) (s : Mo (Ms ks) H H') (d : DL (b + 1) ks) : Mp H' fk fv b m := x.up s (fun h2 => d (b + 1) h2 b rfl rfl)
end
section
variable {P : Program} {w0 : World} {n : Nat} {l : FL} {H : Heap} {o : Oper} {κ β : Type} [DecidableEq κ] {fk : κ → Value} {fv : β → Value} {b : Nat} {m : List (κ × β)} {d : TypeDesc}
theorem Z.makeMp (fk : κ → Value) (fv : β → Value) {t : TypeId} (ho : o.op = .makeMap t none) : Z P w0 n l H o (fun r H' => r = .map (some H.size) ∧ Mp H' fk fv H.size ([] : List (κ × β)) ∧ Nw H H' ∧ ∃ ob, H' = H.push ob) := by
  intro a w hf ha
  refine ⟨.map (some w.heap.size), H.push (.map #[] 0), w.alloc (.map #[] 0), ?_, ha.alloc _, by rw [ha.heap], ⟨H.size, #[], 0, rfl, rfl, by simp, stamped_empty 0, rfl⟩, Nw.pu _ _, _, rfl⟩
  simp [execOp, ho, Instr.makeMap]
theorem S.putMp {t kt et : TypeId} {x i y : Operand} {k : κ} (z : β) (h : Mp H fk fv b m) (hfk : KeyFn d fk) (ho : o.op = .mapUpdate t x i y) (hm : ∀ w, (underlying t).run P w = .ok (.map kt et) w) (hk : P.underlying kt = some d)
    (hx : opv l x = some (.map (some b))) (hi : opv l i = some (fk k)) (hy : opv l y = some (fv z)) : S P w0 n l H o (fun H' => Mp H' fk fv b (mput m k z) ∧ Mo (fun c => c = b) H H') :=
  (S.mapUpdate h.mo hfk ho hm hk hx hi hy).mono fun H' ⟨h1, h2⟩ => ⟨⟨h1⟩, h2⟩
end
theorem mget_put {κ β : Type} [DecidableEq κ] (m : List (κ × β)) (k : κ) (b : β) (q : κ) : mget (mput m k b) q = if q = k then some b else mget m q := by
  have h1 : ∀ m : List (κ × β), mget (m.map (fun p => if p.1 = k then (p.1, b) else p)) q = if q = k then (mget m q).map (fun _ => b) else mget m q := by
    intro m
    induction m with
    | nil => simp [mget]
    | cons p m ih =>
      simp only [List.map_cons]
      by_cases hp : p.1 = k
      · rw [if_pos hp]
        by_cases hq : q = p.1
        · have : q = k := hq.trans hp
          simp [mget, hq, hp]
        · simp only [mget]
          rw [if_neg hq, ih, if_neg hq]
      · rw [if_neg hp]
        by_cases hq : q = p.1
        · have : ¬ q = k := fun e => hp (by rw [← hq, e])
          simp [mget, hq, hp]
        · simp only [mget]
          rw [if_neg hq, ih, if_neg hq]
  have h2 : ∀ m : List (κ × β), mget (m ++ [(k, b)]) q = (mget m q).or (if q = k then some b else none) := by
    intro m
    induction m with
    | nil => simp [mget]
    | cons p m ih =>
      simp only [List.cons_append, mget]
      split
      · simp
      · exact ih
  unfold mput
  split
  · rename_i h
    rw [h1]
    by_cases hq : q = k
    · subst hq
      obtain ⟨z, hz⟩ := Option.isSome_iff_exists.1 h
      simp [hz]
    · simp [hq]
  · rename_i h
    rw [h2]
    by_cases hq : q = k
    · subst hq
      have : mget m q = none := by simpa using h
      simp [this]
    · simp [hq]
section
variable {P : Program} {w0 : World} {Q : Exit → Act → World → Prop} {n : Nat} {l : FL} {H : Heap} {ops : Array Oper} {rest : List Oper} {o : Oper}
/-- an operation that turns the heap, whose value nobody takes -/
theorem LR.zn {R : Value → Heap → Prop} (hz : Z P w0 n l H o R) (hw : Wd ops l o) (hd : o.dst = none)
    (h : ∀ v H', R v H' → LR false P w0 ops Q n l rest H') : LR false P w0 ops Q n l (o :: rest) H := by
  intro a w hf ha
  obtain ⟨v, H', w', hr, ha', hR⟩ := hz a w hf ha
  have hh := h v H' hR a w' hf ha'
  simp only [Md] at hh ⊢
  unfold wpList
  rw [if_pos (hw n a hf)]
  refine .inl ?_
  unfold Oper.wp
  rw [hr]
  show wpList P ops Q rest (a.put o.dst v) w'
  rw [hd]
  exact hh
end
section
variable {P : Program} {w0 : World} {Q : Exit → Act → World → Prop} {SH : Heap → Prop} {X : List Nat} {n k : Nat} {l : FL} {H : Heap} {ops : Array Oper} {o : Oper} {dn : List Nat}
theorem LH.four {i j m p : Nat} (hr : Region.ready .any ops (lst ops.size dn) = [i, j, m, p]) (h : LO P w0 ops Q SH X n k i dn l H) (h2 : LO P w0 ops Q SH X n k j dn l H) (h3 : LO P w0 ops Q SH X n k m dn l H) (h4 : LO P w0 ops Q SH X n k p dn l H) : LH P w0 ops Q SH X n (k + 1) dn l H :=
  fun a w hf ha => wpAnyE_all hr (by simp) (fun q hq => by
    simp only [List.mem_cons, List.not_mem_nil, or_false] at hq
    rcases hq with rfl | rfl | rfl | rfl
    · exact h a w hf ha
    · exact h2 a w hf ha
    · exact h3 a w hf ha
    · exact h4 a w hf ha)
end
end Go.Proofs.YtdliddjkacbggaaGreatDoor.E
/-
  Maps whose keys are arrays of bytes, deletes, entries written in place, ranges over maps, calls through an interface: no condition.
-/
namespace Go.Proofs.YtdliddjkacbggaaGreatDoor.E
open Go.MapKept
set_option linter.unusedVariables false
set_option linter.unusedSimpArgs false
set_option linter.unusedSectionVars false

/-- 32 bytes -/
abbrev Ide := { l : List UInt8 // l.length = 32 }
def Zid : Ide := ⟨List.replicate 32 0, by simp⟩
instance : Inhabited Ide := ⟨Zid⟩
theorem nodup_inj {α β : Type} {f : α → β} : ∀ {l : List α}, (l.map f).Nodup → ∀ {x y : α}, x ∈ l → y ∈ l → f x = f y → x = y
  | [], _, _, _, h, _, _ => by cases h
  | a :: l, hn, x, y, hx, hy, e => by
    simp only [List.map_cons, List.nodup_cons] at hn
    rcases List.mem_cons.1 hx with rfl | hx2 <;> rcases List.mem_cons.1 hy with rfl | hy2
    · rfl
    · exact (hn.1 (List.mem_map.2 ⟨y, hy2, e.symm⟩)).elim
    · exact (hn.1 (List.mem_map.2 ⟨x, hx2, e⟩)).elim
    · exact nodup_inj hn.2 hx2 hy2 e
/-- keys that are arrays -/
structure KeyA {κ : Type} [DecidableEq κ] (P : Program) (kt : TypeId) (fk : κ → Value) : Prop where
  und : ∃ len e, P.underlying kt = some (.array len e)
  check : ∀ em k w, (Instr.checkKey em 10000 kt (fk k)).run P w = .ok () w
  eq : ∀ a b w, (Op.equal kt (fk a) (fk b)).run P w = .ok (decide (a = b)) w
  same : ∀ k, Instr.sameBits 10000 (fk k) (fk k) = true
  inj : ∀ a b, fk a = fk b → a = b

section
variable {P : Program} {w0 : World} {n : Nat} {l : FL} {H : Heap} {o : Oper}
variable {κ β : Type} [DecidableEq κ] {G : Nat → Prop} {fk : κ → Value} {fv : β → Value} {v : Value} {m : List (κ × β)} {kt : TypeId} {b : Nat}

theorem find_entriesA {k : κ} {w : World} (hk : KeyA P kt fk) : ∀ (es : List MapEntry) (m : List (κ × β)) (i : Nat), es.map (fun e => (e.key, e.val)) = m.map (fun p => (fk p.1, fv p.2)) →
    (mget m k = none ∧ (Instr.findAsking kt (fk k) es i).run P w = .ok none w ∧ ∀ x ∈ es, x.key ≠ fk k) ∨ ∃ j e b, mget m k = some b ∧ (Instr.findAsking kt (fk k) es i).run P w = .ok (some (i + j, fv b)) w ∧ es[j]? = some e ∧ e.key = fk k ∧ e.val = fv b
  | [], m, i, h => by
    have : m = [] := by cases m <;> simp_all
    subst this
    exact .inl ⟨rfl, by simp [Instr.findAsking], by simp⟩
  | e :: es, m, i, h => by
    match m, h with
    | (a, c) :: m, h =>
      simp only [List.map_cons, List.cons.injEq, Prod.mk.injEq] at h
      obtain ⟨⟨h1, h2⟩, h3⟩ := h
      have hq := hk.eq k a w
      rw [← h1] at hq
      by_cases hka : k = a
      · subst hka
        simp only [decide_true] at hq
        exact .inr ⟨0, e, c, by simp [mget], by simp [Instr.findAsking, hq, h2], rfl, h1, h2⟩
      · simp only [hka, decide_false] at hq
        rcases find_entriesA (k := k) (w := w) hk es m (i + 1) h3 with ⟨q1, q2, q3⟩ | ⟨j, e', b', q1, q2, q3, q4, q5⟩
        · refine .inl ⟨?_, by simp [Instr.findAsking, hq, q2], ?_⟩
          · simp only [mget, hka, if_false]; exact q1
          · intro x hx
            cases hx with
            | head => intro q; exact hka (hk.inj _ _ (by rw [← q, h1]))
            | tail _ hx => exact q3 x hx
        · refine .inr ⟨j + 1, e', b', ?_, ?_, by simpa using q3, q4, q5⟩
          · simp only [mget, hka, if_false]; exact q1
          · simp [Instr.findAsking, hq, q2]; omega

theorem mo_set {r : Nat} (ob : Obj) : Mo (fun c => c = r) H (H.setIfInBounds r ob) := ⟨by simp, fun b hb hne => by simp [Ne.symm hne]⟩
theorem modify_entriesA {k : κ} {b : β} {key : Value} (hinj : ∀ a b, fk a = fk b → a = b) (hkey : key = fk k) : ∀ (es : List MapEntry) (m : List (κ × β)) (j : Nat) (e : MapEntry), es.map (fun e => (e.key, e.val)) = m.map (fun p => (fk p.1, fv p.2)) → (es.map (·.key)).Nodup → es[j]? = some e → e.key = fk k →
    (es.modify j (fun e => { e with key := key, val := fv b })).map (fun e => (e.key, e.val)) = (m.map (fun p => if p.1 = k then (p.1, b) else p)).map (fun p => (fk p.1, fv p.2))
  | [], _, _, _, _, _, h, _ => by simp at h
  | x :: es, m, j, e, h, hn, hj, he => by
    match m, h with
    | (a, c) :: m, h =>
      simp only [List.map_cons, List.cons.injEq, Prod.mk.injEq] at h
      obtain ⟨⟨h1, h2⟩, h3⟩ := h
      simp only [List.map_cons, List.nodup_cons] at hn
      cases j with
      | zero =>
        simp only [List.getElem?_cons_zero, Option.some.injEq] at hj
        subst hj
        have hak : a = k := hinj _ _ (by rw [← h1, he])
        subst hak
        simp only [List.modify_zero_cons, List.map_cons, if_true, hkey]
        congr 1
        rw [h3, List.map_map]
        apply List.map_congr_left
        intro p hp
        have : p.1 ≠ a := by
          intro e
          apply hn.1
          have : (fk p.1, fv p.2) ∈ es.map (fun e => (e.key, e.val)) := by rw [h3]; exact List.mem_map.2 ⟨p, hp, rfl⟩
          obtain ⟨y, hy, hye⟩ := List.mem_map.1 this
          simp only [Prod.mk.injEq] at hye
          exact List.mem_map.2 ⟨y, hy, by rw [hye.1, e, h1]⟩
        simp [this]
      | succ j =>
        simp only [List.getElem?_cons_succ] at hj
        have hak : a ≠ k := by
          intro q
          subst q
          apply hn.1
          rw [h1, ← he]
          exact List.mem_map.2 ⟨e, List.mem_of_getElem? hj, rfl⟩
        simp only [List.modify_succ_cons, List.map_cons, hak, if_false, h1, h2]
        rw [modify_entriesA hinj hkey es m j e h3 hn.2 hj he]

/-- without a key -/
def mdel (m : List (κ × β)) (k : κ) : List (κ × β) := m.filter (fun p => decide (p.1 ≠ k))
theorem mget_del (m : List (κ × β)) (k q : κ) : mget (mdel m k) q = if q = k then none else mget m q := by
  induction m with
  | nil => simp [mdel, mget]
  | cons p m ih =>
    unfold mdel at ih ⊢
    by_cases hp : p.1 = k
    · rw [List.filter_cons_of_neg (by simp [hp]), ih]
      by_cases hq : q = k
      · simp [hq]
      · rw [if_neg hq, if_neg hq]; simp only [mget]; rw [if_neg (fun e => hq (e.trans hp))]
    · rw [List.filter_cons_of_pos (by simp [hp])]
      simp only [mget]
      by_cases hq : q = p.1
      · rw [if_pos hq, if_pos hq, if_neg (fun e => hp (hq.symm.trans e))]
      · rw [if_neg hq, if_neg hq, ih]
theorem mget_mem {m : List (κ × β)} {k : κ} {z : β} (h : mget m k = some z) : (k, z) ∈ m := by
  induction m with
  | nil => cases h
  | cons p m ih =>
    simp only [mget] at h
    split at h
    · rename_i e; cases h; rw [e]; exact .head _
    · exact .tail _ (ih h)
theorem mget_none {m : List (κ × β)} {k : κ} (h : mget m k = none) : ∀ p ∈ m, p.1 ≠ k := by
  induction m with
  | nil => simp
  | cons p m ih =>
    simp only [mget] at h
    split at h
    · cases h
    · rename_i hne
      intro q hq e
      cases hq with
      | head => exact hne e.symm
      | tail _ hq => exact ih h q hq e
theorem mget_of_mem {m : List (κ × β)} (hn : (m.map (·.1)).Nodup) {k : κ} {z : β} (h : (k, z) ∈ m) : mget m k = some z := by
  induction m with
  | nil => cases h
  | cons p m ih =>
    simp only [List.map_cons, List.nodup_cons] at hn
    simp only [mget]
    cases h with
    | head => simp
    | tail _ h =>
      rw [if_neg ?_]
      · exact ih hn.2 h
      · intro e
        exact hn.1 (List.mem_map.2 ⟨(k, z), h, e⟩)
theorem isSome_iff_key {m : List (κ × β)} {k : κ} : (mget m k).isSome = true ↔ k ∈ m.map (·.1) := by
  constructor
  · intro h
    obtain ⟨z, hz⟩ := Option.isSome_iff_exists.1 h
    exact List.mem_map.2 ⟨_, mget_mem hz, rfl⟩
  · intro h
    obtain ⟨p, hp, e⟩ := List.mem_map.1 h
    cases hg : mget m k with
    | some z => rfl
    | none => exact absurd e (mget_none hg p hp)
theorem erase_entries {k : κ} (hinj : ∀ a b, fk a = fk b → a = b) : ∀ (es : List MapEntry) (m : List (κ × β)) (j : Nat) (e : MapEntry), es.map (fun e => (e.key, e.val)) = m.map (fun p => (fk p.1, fv p.2)) → (es.map (·.key)).Nodup → es[j]? = some e → e.key = fk k →
    (es.eraseIdx j).map (fun e => (e.key, e.val)) = (mdel m k).map (fun p => (fk p.1, fv p.2))
  | [], _, _, _, _, _, h, _ => by simp at h
  | x :: es, m, j, e, h, hn, hj, he => by
    match m, h with
    | (a, c) :: m, h =>
      simp only [List.map_cons, List.cons.injEq, Prod.mk.injEq] at h
      obtain ⟨⟨h1, h2⟩, h3⟩ := h
      simp only [List.map_cons, List.nodup_cons] at hn
      cases j with
      | zero =>
        simp only [List.getElem?_cons_zero, Option.some.injEq] at hj
        subst hj
        have hak : a = k := hinj _ _ (by rw [← h1, he])
        subst hak
        have hm : mdel ((a, c) :: m) a = m := by
          unfold mdel
          rw [List.filter_cons_of_neg (by simp)]
          apply List.filter_eq_self.2
          intro p hp
          simp only [decide_eq_true_eq]
          intro e
          apply hn.1
          have : (fk p.1, fv p.2) ∈ es.map (fun e => (e.key, e.val)) := by rw [h3]; exact List.mem_map.2 ⟨p, hp, rfl⟩
          obtain ⟨y, hy, hye⟩ := List.mem_map.1 this
          simp only [Prod.mk.injEq] at hye
          exact List.mem_map.2 ⟨y, hy, by rw [hye.1, e, h1]⟩
        rw [hm]
        simpa using h3
      | succ j =>
        simp only [List.getElem?_cons_succ] at hj
        have hak : a ≠ k := by
          intro q
          subst q
          apply hn.1
          rw [h1, ← he]
          exact List.mem_map.2 ⟨e, List.mem_of_getElem? hj, rfl⟩
        have hm : mdel ((a, c) :: m) k = (a, c) :: mdel m k := by
          unfold mdel
          rw [List.filter_cons_of_pos (by simp [hak])]
        rw [hm]
        simp only [List.eraseIdx_cons_succ, List.map_cons, h1, h2]
        rw [erase_entries hinj es m j e h3 hn.2 hj he]
/-! ### entries that are written in place -/
/-- the block b is a map that holds m; the entry of k was made at q -/
structure Mq (H : Heap) (fk : κ → Value) (fv : β → Value) (b : Nat) (m : List (κ × β)) (k : κ) (q : Int) : Prop where
  ex : ∃ es clock, H[b]? = some (.map es clock) ∧ Stamped es clock ∧ es.toList.map (fun e => (e.key, e.val)) = m.map (fun p => (fk p.1, fv p.2)) ∧ ∃ e ∈ es.toList, (e.born : Int) = q ∧ e.key = fk k
theorem Mq.mp {k : κ} {q : Int} (h : Mq H fk fv b m k q) : Mp H fk fv b m := by
  obtain ⟨es, clock, h1, h2, h3, _⟩ := h.ex
  exact ⟨⟨b, es, clock, rfl, rfl, h1, h2, h3⟩⟩
theorem Mq.lt {k : κ} {q : Int} (h : Mq H fk fv b m k q) : b < H.size := h.mp.lt
theorem Mq.up {k : κ} {q : Int} {H' : Heap} {S : Nat → Prop} (h : Mq H fk fv b m k q) (s : Mo S H H') (hS : ¬ S b) : Mq H' fk fv b m k q := by
  obtain ⟨es, clock, h1, h2⟩ := h.ex
  exact ⟨es, clock, by rw [s.same b h.lt hS]; exact h1, h2⟩
theorem Mq.nw {k : κ} {q : Int} {H' : Heap} (h : Mq H fk fv b m k q) (s : Nw H H') : Mq H' fk fv b m k q := h.up s (fun e => e)
theorem Mq.upL {k : κ} {q : Int} {H' : Heap} {ks : List Nat} (h : Mq H fk fv b m k q) (s : Mo (Ms ks) H H') (d : DL (b + 1) ks) : Mq H' fk fv b m k q := h.up s (fun h2 => d (b + 1) h2 b rfl rfl)
theorem Mp.le (h : Mp H fk fv b m) : b + 1 ≤ H.size := h.lt
/-! ### ranges over a map that is not turned -/
structure Mr (H : Heap) (fk : κ → Value) (fv : β → Value) (b : Nat) (m : List (κ × β)) (es : Array MapEntry) (clock : Nat) : Prop where
  at_ : H[b]? = some (.map es clock)
  st : Stamped es clock
  eq : es.toList.map (fun e => (e.key, e.val)) = m.map (fun p => (fk p.1, fv p.2))
theorem Mp.raw (h : Mp H fk fv b m) : ∃ es clock, Mr H fk fv b m es clock := by
  obtain ⟨r, es, clock, hv, h2, h3, h4, h5⟩ := h.mo.ex
  obtain rfl := h2
  exact ⟨es, clock, h3, h4, h5⟩
section
variable {es : Array MapEntry} {clock : Nat} {H' : Heap}
theorem Mr.mp (h : Mr H fk fv b m es clock) : Mp H fk fv b m := ⟨⟨b, es, clock, rfl, rfl, h.at_, h.st, h.eq⟩⟩
theorem Mr.lt (h : Mr H fk fv b m es clock) : b < H.size := h.mp.lt
theorem Mr.up {S : Nat → Prop} (h : Mr H fk fv b m es clock) (s : Mo S H H') (hS : ¬ S b) : Mr H' fk fv b m es clock := ⟨by rw [s.same b h.lt hS]; exact h.at_, h.st, h.eq⟩
theorem Mr.nw (h : Mr H fk fv b m es clock) (s : Nw H H') : Mr H' fk fv b m es clock := h.up s (fun e => e)
theorem Mr.upL {ks : List Nat} (h : Mr H fk fv b m es clock) (s : Mo (Ms ks) H H') (d : DL (b + 1) ks) : Mr H' fk fv b m es clock := h.up s (fun h2 => d (b + 1) h2 b rfl rfl)
theorem Mr.mo (h : Mr H fk fv b m es clock) : MapOf (fun x => x = b) H fk fv (.map (some b)) m := h.mp.mo
end
/-- the block b is an iterator over the map in block r; the keys dn have come -/
structure Itr (H : Heap) (b r : Nat) (fk : κ → Value) (es : Array MapEntry) (clock : Nat) (dn : List κ) : Prop where
  ex : ∃ vis : List MapEntry, H[b]? = some (.mapIter (some r) clock (vis.map (·.born)).toArray clock) ∧ (∀ e ∈ vis, e ∈ es.toList) ∧ vis.map (·.key) = dn.map fk
section
variable {es : Array MapEntry} {clock r : Nat} {H' : Heap} {dn : List κ}
theorem Itr.lt (h : Itr H b r fk es clock dn) : b < H.size := by
  obtain ⟨vis, h1, _⟩ := h.ex
  exact (Array.getElem?_eq_some_iff.1 h1).1
theorem Itr.up {S : Nat → Prop} (h : Itr H b r fk es clock dn) (s : Mo S H H') (hS : ¬ S b) : Itr H' b r fk es clock dn := by
  obtain ⟨vis, h1, h2⟩ := h.ex
  exact ⟨vis, by rw [s.same b h.lt hS]; exact h1, h2⟩
theorem Itr.nw (h : Itr H b r fk es clock dn) (s : Nw H H') : Itr H' b r fk es clock dn := h.up s (fun e => e)
theorem Itr.upL {ks : List Nat} (h : Itr H b r fk es clock dn) (s : Mo (Ms ks) H H') (d : DL (b + 1) ks) : Itr H' b r fk es clock dn := h.up s (fun h2 => d (b + 1) h2 b rfl rfl)
theorem Z.rangeA {t et : TypeId} {x : Operand} (h : Mr H fk fv b m es clock) (ho : o.op = .range t x) (hm : ∀ w, (underlying t).run P w = .ok (.map kt et) w) (hx : opv l x = some (.map (some b))) :
    Z P w0 n l H o (fun v H' => v = .pointer (some ⟨H.size, 0, none⟩) ∧ Itr H' H.size b fk es clock ([] : List κ) ∧ Nw H H' ∧ ∃ ob, H' = H.push ob) := by
  intro ac w hf ha
  have h3' : w.heap[b]? = some (.map es clock) := by rw [ha.heap]; exact h.at_
  refine ⟨.pointer (some ⟨w.heap.size, 0, none⟩), H.push (.mapIter (some b) clock #[] clock), w.alloc (.mapIter (some b) clock #[] clock), ?_, ha.alloc _, by rw [ha.heap], ⟨[], by simp, by simp, rfl⟩, Nw.pu _ _, _, rfl⟩
  simp [execOp, ho, hf.eval hx, Instr.range, hm, MapKept.run_getObj_map h3']
theorem Mr.le (h : Mr H fk fv b m es clock) : b + 1 ≤ H.size := h.lt
theorem Itr.le (h : Itr H b r fk es clock dn) : b + 1 ≤ H.size := h.lt
/-- what 'next' hands back -/
def nxt (q : Bool) (a c : Value) : Value := .tuple (if q then #[.bool true, a, c] else #[.bool false])
theorem Y.ext0 {x : Operand} {q : Bool} {a c : Value} (ho : o.op = .extract x 0) (hx : opv l x = some (nxt q a c)) : Y P w0 n l H o (.bool q) := by
  intro ac w hf ha
  cases q <;> simp [execOp, ho, hf.eval hx, nxt, Instr.extract]
theorem seen_mem (hinj : ∀ a b, fk a = fk b → a = b) {m : List (κ × β)} {vis : List MapEntry} (hs : Stamped es clock) (hv : ∀ e ∈ vis, e ∈ es.toList) (hd : vis.map (·.key) = dn.map fk) {e : MapEntry} (he : e ∈ es.toList) {a : κ} (ha : e.key = fk a) : e.born ∈ vis.map (·.born) ↔ a ∈ dn := by
  have uniqB : ∀ x ∈ es.toList, ∀ y ∈ es.toList, x.born = y.born → x = y := fun x hx y hy hb => nodup_inj hs.2.1 hx hy hb
  have uniqK : ∀ x ∈ es.toList, ∀ y ∈ es.toList, x.key = y.key → x = y := fun x hx y hy hb => nodup_inj hs.2.2 hx hy hb
  constructor
  · intro h
    obtain ⟨y, hy, hb⟩ := List.mem_map.1 h
    have := uniqB y (hv y hy) e he hb
    subst this
    have h2 : y.key ∈ dn.map fk := by rw [← hd]; exact List.mem_map.2 ⟨y, hy, rfl⟩
    obtain ⟨c, hc, hce⟩ := List.mem_map.1 h2
    rw [hinj _ _ (ha.symm.trans hce.symm)]
    exact hc
  · intro h
    have h2 : fk a ∈ vis.map (·.key) := by rw [hd]; exact List.mem_map.2 ⟨a, h, rfl⟩
    obtain ⟨y, hy, hk⟩ := List.mem_map.1 h2
    have := uniqK y (hv y hy) e he (hk.trans ha.symm)
    subst this
    exact List.mem_map.2 ⟨y, hy, rfl⟩
theorem Z.nextA {x : Operand} [Inhabited κ] [Inhabited β] (h : Itr H b r fk es clock dn) (hmr : Mr H fk fv r m es clock) (hinj : ∀ a b, fk a = fk b → a = b) (ho : o.op = .next x false) (hx : opv l x = some (.pointer (some ⟨b, 0, none⟩))) :
    Z P w0 n l H o (fun v H' => ∃ (q : Bool) (a : κ) (c : β) (dn' : List κ), v = nxt q (fk a) (fv c) ∧ Itr H' b r fk es clock dn' ∧ (q = true → (a, c) ∈ m ∧ a ∉ dn ∧ dn' = dn ++ [a]) ∧ (q = false → (∀ p ∈ m, p.1 ∈ dn) ∧ dn' = dn) ∧ Mo (fun g => g = b) H H') := by
  intro ac w hf ha
  obtain ⟨vis, h1, h2, h3⟩ := h.ex
  have h1' : w.heap[b]? = some (.mapIter (some r) clock (vis.map (·.born)).toArray clock) := by rw [ha.heap]; exact h1
  have hm' : w.heap[r]? = some (.map es clock) := by rw [ha.heap]; exact hmr.at_
  have hold : ∀ x ∈ es.toList, x.born < clock := hmr.st.1
  have hlt := h.lt
  have pairs : ∀ e ∈ es.toList, ∃ a c, (a, c) ∈ m ∧ e.key = fk a ∧ e.val = fv c := by
    intro e he
    have : (e.key, e.val) ∈ m.map (fun p => (fk p.1, fv p.2)) := by rw [← hmr.eq]; exact List.mem_map.2 ⟨e, he, rfl⟩
    obtain ⟨p, hp, hpe⟩ := List.mem_map.1 this
    simp only [Prod.mk.injEq] at hpe
    exact ⟨p.1, p.2, hp, hpe.1.symm, hpe.2.symm⟩
  rcases run_next_at (P := P) w o.type b r clock clock _ es clock h1' hm' hold (Nat.le_refl _) with ⟨hl, hr⟩ | ⟨e, he, w1, hw1, hr⟩
  · refine ⟨.tuple #[.bool false], H, w, by simp [execOp, ho, hf.eval hx, hr], ha, false, default, default, dn, rfl, h, by simp, fun _ => ⟨fun p hp => ?_, rfl⟩, Mo.refl _ _⟩
    have : (fk p.1, fv p.2) ∈ es.toList.map (fun e => (e.key, e.val)) := by rw [hmr.eq]; exact List.mem_map.2 ⟨p, hp, rfl⟩
    obtain ⟨e, he, hee⟩ := List.mem_map.1 this
    simp only [Prod.mk.injEq] at hee
    have hs := all_seen es _ hl e he
    refine (seen_mem (m := m) hinj hmr.st h2 h3 he hee.1).1 ?_
    simpa using hs
  · obtain ⟨hes, hns⟩ := mem_left he
    obtain ⟨a, c, hac, hk, hv⟩ := pairs e hes
    have hw1' : At w0 H w1 := by
      rcases hw1 with rfl | rfl
      · exact ha
      · exact ha.drew
    refine ⟨.tuple #[.bool true, e.key, e.val], H.setIfInBounds b (.mapIter (some r) clock ((vis.map (·.born)).toArray.push e.born) clock), _, by simp [execOp, ho, hf.eval hx, hr]; rfl, ?_, true, a, c, dn ++ [a], by rw [hk, hv]; rfl, ⟨vis ++ [e], ?_, ?_, ?_⟩, fun _ => ⟨hac, ?_, rfl⟩, by simp, mo_set _⟩
    · exact ⟨by simp [ChangeMaps.setBlock, hw1'.heap], hw1'.os, hw1'.tape, hw1'.output, hw1'.dr⟩
    · simp [hlt]
    · intro x hx
      rcases List.mem_append.1 hx with h | h
      · exact h2 x h
      · simp only [List.mem_singleton] at h; subst h; exact hes
    · simp [h3, hk]
    · intro had
      have := (seen_mem (m := m) hinj hmr.st h2 h3 hes hk).2 had
      simp at hns
      simp at this
      obtain ⟨x, hx, hxe⟩ := this
      exact hns x hx hxe
theorem Y.entryA {x : Operand} {a : κ} {c : β} (h : Itr H b r fk es clock (dn ++ [a])) (hmr : Mr H fk fv r m es clock) (hinj : ∀ a b, fk a = fk b → a = b) (hac : (a, c) ∈ m) (ho : o.op = .entry x) (hx : opv l x = some (.pointer (some ⟨b, 0, none⟩))) : Y P w0 n l H o (.tuple #[fk a, fv c]) := by
  intro ac w hf ha
  obtain ⟨vis, h1, h2, h3⟩ := h.ex
  have h1' : w.heap[b]? = some (.mapIter (some r) clock (vis.map (·.born)).toArray clock) := by rw [ha.heap]; exact h1
  have hm' : w.heap[r]? = some (.map es clock) := by rw [ha.heap]; exact hmr.at_
  have hne : vis ≠ [] := by intro e; subst e; simp at h3
  obtain ⟨e, he⟩ : ∃ e, vis.getLast? = some e := by
    rw [List.getLast?_eq_some_getLast hne]; exact ⟨_, rfl⟩
  have hev : e ∈ vis := List.mem_of_getLast? he
  have hek : e.key = fk a := by
    have := congrArg List.getLast? h3
    simpa [he] using this
  have hes := h2 e hev
  have hback : (vis.map (·.born)).toArray.back? = some e.born := by simp [he]
  have hfind : es.find? (fun x => x.born == e.born) = some e := by
    rw [← Array.find?_toList]
    obtain ⟨x, hx⟩ : ∃ x, es.toList.find? (fun x => x.born == e.born) = some x := by
      rw [← Option.isSome_iff_exists, List.find?_isSome]
      exact ⟨e, hes, by simp⟩
    have hxm := List.mem_of_find?_eq_some hx
    have hxb := List.find?_some hx
    simp only [beq_iff_eq] at hxb
    rw [hx, nodup_inj hmr.st.2.1 hxm hes hxb]
  have hval : e.val = fv c := by
    have : (fk a, fv c) ∈ es.toList.map (fun e => (e.key, e.val)) := by rw [hmr.eq]; exact List.mem_map.2 ⟨_, hac, rfl⟩
    obtain ⟨y, hy, hye⟩ := List.mem_map.1 this
    simp only [Prod.mk.injEq] at hye
    have := nodup_inj hmr.st.2.2 hy hes (hye.1.trans hek.symm)
    rw [← this]; exact hye.2
  simp [execOp, ho, hf.eval hx, Instr.entry, getObj, Sem.run, h1', hm', hback, hfind, hek, hval]
end
end

/-! ### errors that are numbers -/
section
variable {P : Program} {w0 : World} {n : Nat} {l : FL} {H : Heap} {o : Oper}
end

/-! ### a call through an interface -/
section
variable {P : Program} {w0 : World} {Q : Exit → Act → World → Prop} {n : Nat} {l : FL} {H : Heap} {ops : Array Oper} {rest : List Oper} {o : Oper}
end
section
variable {P : Program} {w0 : World} {Q : Exit → Act → World → Prop} {n k i : Nat} {dn : List Nat} {l : FL} {H : Heap} {ops : Array Oper} {o : Oper} {SH : Heap → Prop} {X : List Nat}
theorem LO.calld {R : Value → Heap → Prop} {d : Nat} {c : Operand} {cv : Value} {args : List Operand} {ats : Array TypeId} {vs : List Value} (hi : ops[i]? = some o) (ho : o.op = .call { callee := .value c, args := args.toArray, argTypes := ats })
    (hcv : opv l c = some cv) (hv : opvs l args = some vs) (hw : Wd ops l o) (hd : o.dst = some d) (hn : Nat.blt d n = true) (hc : Clo P w0 cv vs H R)
    (h : ∀ v H', R v H' → (X.contains i = true ∨ SH H') ∧ LH P w0 ops Q SH X n k (i :: dn) ((d, v) :: l) H') : LO P w0 ops Q SH X n k i dn l H := by
  intro a w hf ha
  obtain ⟨f, caps, rfl, hcall, hct⟩ := hc
  have hr : (execOp a.eval o).run P w = .ok (.enter f (vs.toArray ++ caps)) w := by
    have h2 := hf.evals hv
    have h3 : (args.toArray.map a.eval) = vs.toArray := by rw [List.map_toArray, h2]
    simp [execOp, ho, resolve, Deferred.ofValue, hf.eval hcv, invoke, hcall, h2]
  unfold wpOp
  simp only [hi]
  rw [if_pos (hw n a hf)]
  refine .inl ?_
  unfold Oper.wp
  rw [hr]
  show Calls P f (vs.toArray ++ caps) w _
  refine (hct w ha).mono ?_
  rintro e w' ⟨r, H', rfl, ha', hR⟩
  obtain ⟨h1, h2⟩ := h r H' hR
  have hp := hf.put hn r
  rw [← hd] at hp
  exact ⟨h1.imp id (fun h1 => ⟨H', ha', h1⟩), h2 _ w' hp ha'⟩
end
end Go.Proofs.YtdliddjkacbggaaGreatDoor.E
/-
  The document's disk, as plain data: files, names, what stays of them; what each call does: no condition.
-/
namespace Go.Proofs.YtdliddjkacbggaaGreatDoor.E
set_option linter.unusedVariables false
set_option linter.unusedSimpArgs false
set_option linter.unusedSectionVars false
set_option linter.unnecessarySimpa false

abbrev Pth := List UInt8
def blt (a b : Pth) : Prop := Op.bytesLess a b = true
instance (a b : Pth) : Decidable (blt a b) := inferInstanceAs (Decidable (_ = _))
theorem blt_irr (a : Pth) : ¬ blt a a := by
  unfold blt
  induction a with
  | nil => simp [Op.bytesLess]
  | cons x a ih => simp only [Op.bytesLess]; simpa using ih
theorem blt_total : ∀ {a b : Pth}, ¬ blt a b → ¬ blt b a → a = b
  | [], [], _, _ => rfl
  | [], _ :: _, h, _ => by simp [blt, Op.bytesLess] at h
  | _ :: _, [], _, h => by simp [blt, Op.bytesLess] at h
  | x :: a, y :: b, h1, h2 => by
    simp only [blt, Op.bytesLess] at h1 h2
    by_cases e1 : x < y
    · simp [e1] at h1
    · by_cases e2 : y < x
      · simp [e2] at h2
      · have : x = y := by apply UInt8.toNat.inj; rw [UInt8.lt_iff_toNat_lt] at e1 e2; omega
        subst this
        rw [blt_total (a := a) (b := b) (by simpa [blt] using h1) (by simpa [blt] using h2)]
theorem blt_trans : ∀ {a b c : Pth}, blt a b → blt b c → blt a c
  | [], [], _, h, _ => by simp [blt, Op.bytesLess] at h
  | _ :: _, [], _, h, _ => by simp [blt, Op.bytesLess] at h
  | _, _ :: _, [], _, h => by simp [blt, Op.bytesLess] at h
  | [], _ :: _, _ :: _, _, _ => by simp [blt, Op.bytesLess]
  | x :: a, y :: b, z :: c, h1, h2 => by
    simp only [blt, Op.bytesLess, Bool.or_eq_true, decide_eq_true_eq, Bool.and_eq_true, beq_iff_eq] at h1 h2 ⊢
    rcases h1 with h1 | ⟨rfl, h1⟩
    · rcases h2 with h2 | ⟨rfl, h2⟩
      · left; rw [UInt8.lt_iff_toNat_lt] at *; omega
      · exact .inl h1
    · rcases h2 with h2 | ⟨rfl, h2⟩
      · exact .inl h2
      · exact .inr ⟨rfl, blt_trans h1 h2⟩
theorem blt_asym {a b : Pth} (h : blt a b) : ¬ blt b a := fun h2 => blt_irr a (blt_trans h h2)
theorem blt_ne {a b : Pth} (h : blt a b) : a ≠ b := fun e => by subst e; exact blt_irr a h

/-- texts that rise, each once -/
def Rise (l : List Pth) : Prop := l.Pairwise blt
theorem rise_nodup {l : List Pth} (h : Rise l) : l.Nodup := by
  rw [List.nodup_iff_pairwise_ne]; exact h.imp (fun h => blt_ne h)
theorem rise_ext : ∀ {a b : List Pth}, Rise a → Rise b → (∀ x, x ∈ a ↔ x ∈ b) → a = b
  | [], [], _, _, _ => rfl
  | [], y :: b, _, _, h => by have := (h y).2 List.mem_cons_self; cases this
  | x :: a, [], _, _, h => by have := (h x).1 List.mem_cons_self; cases this
  | x :: a, y :: b, ha, hb, h => by
    unfold Rise at ha hb
    rw [List.pairwise_cons] at ha hb
    have e : x = y := by
      rcases List.mem_cons.1 ((h x).1 List.mem_cons_self) with e | h1
      · exact e
      · rcases List.mem_cons.1 ((h y).2 List.mem_cons_self) with e | h2
        · exact e.symm
        · exact absurd (ha.1 _ h2) (blt_asym (hb.1 _ h1))
    subst e
    congr 1
    refine rise_ext ha.2 hb.2 (fun z => ⟨fun hz => ?_, fun hz => ?_⟩)
    · rcases List.mem_cons.1 ((h z).1 (List.mem_cons_of_mem _ hz)) with e | h1
      · subst e; exact absurd (ha.1 _ hz) (blt_irr _)
      · exact h1
    · rcases List.mem_cons.1 ((h z).2 (List.mem_cons_of_mem _ hz)) with e | h1
      · subst e; exact absurd (hb.1 _ hz) (blt_irr _)
      · exact h1

/-! ### names -/
abbrev Nms := List (Pth × Nat)
def Asc (l : Nms) : Prop := l.Pairwise (fun x y => blt x.1 y.1)
theorem Asc.rise {l : Nms} (h : Asc l) : Rise (l.map (·.1)) := by unfold Rise; rw [List.pairwise_map]; exact h
theorem Asc.nodup {l : Nms} (h : Asc l) : (l.map (·.1)).Nodup := rise_nodup h.rise
theorem Asc.filter {l : Nms} (h : Asc l) (p : Pth × Nat → Bool) : Asc (l.filter p) := List.Pairwise.filter _ h
def nput : Nms → Pth → Nat → Nms
  | [], p, i => [(p, i)]
  | x :: l, p, i => if blt x.1 p then x :: nput l p i else if x.1 = p then (p, i) :: l else (p, i) :: x :: l
theorem mget_nput (l : Nms) (p : Pth) (i : Nat) (q : Pth) : mget (nput l p i) q = if q = p then some i else mget l q := by
  induction l with
  | nil => simp [nput, mget]
  | cons x l ih =>
    unfold nput
    split
    · rename_i h
      simp only [mget, ih]
      by_cases hq : q = x.1
      · have : ¬ q = p := fun e => blt_ne h (by rw [← hq, e])
        rw [if_pos hq, if_pos hq, if_neg this]
      · rw [if_neg hq, if_neg hq]
    · split
      · rename_i h1 h2
        simp only [mget]
        by_cases hq : q = p
        · simp [hq]
        · rw [if_neg hq, if_neg hq, if_neg (fun e => hq (e.trans h2))]
      · simp only [mget]
theorem mem_nput {l : Nms} {p : Pth} {i : Nat} {x : Pth × Nat} (h : x ∈ nput l p i) : x = (p, i) ∨ x ∈ l := by
  induction l with
  | nil => simp [nput] at h; exact .inl h
  | cons y l ih =>
    unfold nput at h
    split at h
    · rcases List.mem_cons.1 h with e | h
      · exact .inr (by rw [e]; exact List.mem_cons_self)
      · rcases ih h with e | h
        · exact .inl e
        · exact .inr (List.mem_cons_of_mem _ h)
    · split at h
      · rcases List.mem_cons.1 h with e | h
        · exact .inl e
        · exact .inr (List.mem_cons_of_mem _ h)
      · rcases List.mem_cons.1 h with e | h
        · exact .inl e
        · exact .inr h
theorem asc_nput {l : Nms} (h : Asc l) (p : Pth) (i : Nat) : Asc (nput l p i) := by
  induction l with
  | nil => exact List.pairwise_singleton _ _
  | cons x l ih =>
    unfold Asc at h ⊢
    rw [List.pairwise_cons] at h
    unfold nput
    split
    · rename_i h1
      rw [List.pairwise_cons]
      refine ⟨fun y hy => ?_, ih h.2⟩
      rcases mem_nput hy with e | hy
      · rw [e]; exact h1
      · exact h.1 y hy
    · rename_i h1
      split
      · rename_i h2
        rw [List.pairwise_cons]
        exact ⟨fun y hy => by rw [← h2]; exact h.1 y hy, h.2⟩
      · rename_i h2
        have h3 : blt p x.1 := Classical.byContradiction (fun h3 => h2 (blt_total h1 h3))
        rw [List.pairwise_cons]
        refine ⟨fun y hy => ?_, List.pairwise_cons.2 h⟩
        rcases List.mem_cons.1 hy with e | hy
        · rw [e]; exact h3
        · exact blt_trans h3 (h.1 y hy)
theorem asc_ext {a b : Nms} (ha : Asc a) (hb : Asc b) (h : ∀ p, mget a p = mget b p) : a = b := by
  have hk : a.map (·.1) = b.map (·.1) := rise_ext ha.rise hb.rise (fun x => by rw [← isSome_iff_key, ← isSome_iff_key, h])
  have key : ∀ (a b : Nms), a.map (·.1) = b.map (·.1) → Asc a → Asc b → (∀ p, mget a p = mget b p) → a = b := by
    intro a
    induction a with
    | nil => intro b hk _ _ _; cases b with
      | nil => rfl
      | cons y b => cases hk
    | cons x a ih =>
      intro b hk ha hb h
      cases b with
      | nil => cases hk
      | cons y b =>
        simp only [List.map_cons, List.cons.injEq] at hk
        have e2 : x.2 = y.2 := by
          have := h x.1
          simp only [mget, if_pos, hk.1] at this
          exact Option.some.inj this
        have e : x = y := Prod.ext hk.1 e2
        subst e
        congr 1
        refine ih b hk.2 (List.pairwise_cons.1 ha).2 (List.pairwise_cons.1 hb).2 (fun p => ?_)
        have h1 := h p
        simp only [mget] at h1
        by_cases hp : p = x.1
        · have n1 : mget a p = none := Option.not_isSome_iff_eq_none.1 (fun q => by
            rw [isSome_iff_key] at q
            obtain ⟨z, hz, e⟩ := List.mem_map.1 q
            exact blt_ne ((List.pairwise_cons.1 ha).1 z hz) (by rw [e, hp]))
          have n2 : mget b p = none := Option.not_isSome_iff_eq_none.1 (fun q => by
            rw [isSome_iff_key] at q
            obtain ⟨z, hz, e⟩ := List.mem_map.1 q
            exact blt_ne ((List.pairwise_cons.1 hb).1 z hz) (by rw [e, hp]))
          rw [n1, n2]
        · rw [if_neg hp, if_neg hp] at h1; exact h1
  exact key a b hk ha hb h
theorem asc_del {l : Nms} (h : Asc l) (p : Pth) : Asc (mdel l p) := List.Pairwise.filter _ h
theorem mget_filter {l : Nms} {f : Pth → Bool} (p : Pth) : mget (l.filter (fun x => f x.1)) p = if f p = true then mget l p else none := by
  induction l with
  | nil => simp [mget]
  | cons x l ih =>
    by_cases hx : f x.1 = true
    · rw [List.filter_cons_of_pos (by simpa using hx)]
      simp only [mget, ih]
      by_cases hp : p = x.1
      · rw [if_pos hp, if_pos hp, hp, if_pos hx]
      · rw [if_neg hp, if_neg hp]
    · rw [List.filter_cons_of_neg (by simpa using hx), ih]
      simp only [mget]
      by_cases hp : p = x.1
      · rw [hp, if_neg hx, if_neg hx]
      · rw [if_neg hp]

/-! ### paths -/
def okc (c : UInt8) : Bool := (97 ≤ c && c ≤ 122) || (48 ≤ c && c ≤ 57) || c == 46 || c == 95 || c == 45 || c == 47
/-- a slash stands right: not at an end, not behind another one -/
def slk (p : Pth) : Bool := (List.range p.length).all (fun i => !(p.getD i 0 == 47 && (i == 0 || i == p.length - 1 || p.getD (i - 1) 0 == 47)))
def nameB (p : Pth) : Bool := decide (1 ≤ p.length) && decide (p.length ≤ 100) && p.all okc && slk p
/-- the part ahead of the last slash -/
def headP (p : Pth) : Pth := p.take (p.length - 1 - (p.reverse.takeWhile (fun c => c ≠ 47)).length)
def dirP (p : Pth) : Pth := if nameB p = true then headP p else []

/-! ### changes of names -/
structure Chg where
  g : Pth
  n : Pth
  f : Option Nat
  deriving DecidableEq
def Chg.ap (c : Chg) (l : Nms) : Nms :=
  let l1 := if c.g = [] then l else mdel l c.g
  match c.f with
  | none => l1
  | some i => nput l1 c.n i
/-- the directory it is a change of -/
def Chg.dir (c : Chg) : Pth := dirP (if c.g = [] then c.n else c.g)
def apl (cs : List Chg) (l : Nms) : Nms := cs.foldl (fun l c => c.ap l) l
theorem apl_nil (l : Nms) : apl [] l = l := rfl
theorem apl_app (a b : List Chg) (l : Nms) : apl (a ++ b) l = apl b (apl a l) := by unfold apl; rw [List.foldl_append]
theorem asc_ap {l : Nms} (h : Asc l) (c : Chg) : Asc (c.ap l) := by
  unfold Chg.ap
  have h1 : Asc (if c.g = [] then l else mdel l c.g) := by split; exact h; exact asc_del h _
  cases c.f with
  | none => exact h1
  | some i => exact asc_nput h1 _ _
theorem asc_apl {l : Nms} (h : Asc l) : ∀ cs : List Chg, Asc (apl cs l) := by
  intro cs
  induction cs generalizing l with
  | nil => exact h
  | cons c cs ih => exact ih (asc_ap h c)
/-- what a change does to what a path has -/
def Chg.at (c : Chg) (q : Pth) (o : Option Nat) : Option Nat :=
  match c.f with
  | none => if c.g ≠ [] ∧ q = c.g then none else o
  | some i => if q = c.n then some i else if c.g ≠ [] ∧ q = c.g then none else o
theorem mget_ap (c : Chg) (l : Nms) (q : Pth) : mget (c.ap l) q = c.at q (mget l q) := by
  unfold Chg.ap Chg.at
  cases c.f with
  | none =>
    simp only
    by_cases hg : c.g = []
    · simp [hg]
    · rw [if_neg hg, mget_del]; simp [hg]
  | some i =>
    simp only
    rw [mget_nput]
    by_cases hg : c.g = []
    · simp [hg]
    · rw [if_neg hg, mget_del]; simp [hg]

/-! ### files -/
structure Wr where
  b : Bool
  d : List UInt8
  deriving DecidableEq, Inhabited
structure Fdt where
  now : List UInt8
  stays : List UInt8
  w : List Wr
  deriving DecidableEq, Inhabited
def Wr.on (w : Wr) (b : List UInt8) (n : Nat) : List UInt8 := (if w.b = true then b else []) ++ w.d.take n
def Wr.ways (w : Wr) : Nat := max 1 (2 * w.d.length)
def Wr.part (w : Wr) (b : List UInt8) (way : Nat) : List UInt8 :=
  if way < w.d.length ∨ w.d.length = 0 then w.on b (min (way + 1) w.d.length) else w.on b (way - w.d.length) ++ List.replicate (w.d.length - (way - w.d.length)) 0
def waysF (ws : List Wr) : Nat := 1 + (ws.map Wr.ways).sum
def wayW : List Wr → List UInt8 → Nat → List UInt8
  | [], b, _ => b
  | w :: ws, b, k => if k = 0 then b else if k ≤ w.ways then w.part b (k - 1) else wayW ws (w.on b w.d.length) (k - w.ways)
/-- all of them -/
def onAll (ws : List Wr) (b : List UInt8) : List UInt8 := ws.foldl (fun b w => w.on b w.d.length) b

/-! ### a disk -/
structure Dk where
  cap : Nat
  most : Nat
  fs : List Fdt
  now : Nms
  stays : Nms
  log : List Chg
  ops : Nat
  left : Nat
  dead : Bool
def fget (fs : List Fdt) (i : Nat) : Fdt := fs.getD i ⟨[], [], []⟩
def Dk.empty (cap most : Nat) : Dk := ⟨cap, most, [], [], [], [], 0, 0, false⟩
def Dk.begin (d : Dk) : Bool × Dk :=
  if d.dead = true then (false, d)
  else if d.left = 1 then (false, { d with left := 0, dead := true })
  else (true, { d with left := d.left - 1, ops := d.ops + 1 })
/-- 0, or the error of a look for a path -/
def Dk.look (d : Dk) (p : Pth) : Nat := if nameB p = true then (if (mget d.now p).isSome then 0 else 2) else 7
def usedL (fs : List Fdt) (l : Nms) : Nat := (l.map (fun x => (fget fs x.2).now.length)).sum
def Dk.used (d : Dk) : Nat := usedL d.fs d.now
def Dk.chgs (d : Dk) (n : Pth) : List Chg := d.log.filter (fun c => c.dir = n)
def Dk.change (d : Dk) (c : Chg) : Dk := { d with now := c.ap d.now, log := d.log ++ [c] }
/-- the file of a path, made if there is none -/
def Dk.make (d : Dk) (p : Pth) : Dk × Nat := match mget d.now p with
  | some i => (d, i)
  | none => (({ d with fs := d.fs ++ [⟨[], [], []⟩] } : Dk).change ⟨[], p, some d.fs.length⟩, d.fs.length)
def Dk.wasL (d : Dk) (p : Pth) : List UInt8 := match mget d.now p with
  | some i => (fget d.fs i).now
  | none => []
def Dk.putF (d : Dk) (i : Nat) (x : Fdt) : Dk := { d with fs := d.fs.set i x }
def Dk.write (d : Dk) (p : Pth) (w : Wr) : Dk :=
  let (d2, i) := d.make p
  d2.putF i ⟨w.on (fget d2.fs i).now w.d.length, (fget d2.fs i).stays, (fget d2.fs i).w ++ [w]⟩
def Dk.layE (d : Dk) (p : Pth) (w : Wr) : Nat :=
  if nameB p = false then 7
  else if d.most < (w.on (d.wasL p) w.d.length).length then 5
  else if d.cap + (d.wasL p).length < d.used + (w.on (d.wasL p) w.d.length).length then 12
  else 0
def Dk.lay (d : Dk) (p : Pth) (w : Wr) : Nat × Dk :=
  let (g, d1) := d.begin
  if g = false then (11, d1) else (d1.layE p w, if d1.layE p w = 0 then d1.write p w else d1)
def Dk.syncF (d : Dk) (i : Nat) : Dk := d.putF i ⟨(fget d.fs i).now, (fget d.fs i).now, []⟩
def Dk.sync (d : Dk) (p : Pth) : Nat × Dk :=
  let (g, d1) := d.begin
  if g = false then (11, d1) else (d1.look p, if d1.look p = 0 then d1.syncF ((mget d1.now p).getD 0) else d1)
def Dk.renE (d : Dk) (a b : Pth) : Nat :=
  if nameB a = false ∨ nameB b = false then 7 else if dirP a ≠ dirP b then 13 else d.look a
def Dk.rename (d : Dk) (a b : Pth) : Nat × Dk :=
  let (g, d1) := d.begin
  if g = false then (11, d1) else (d1.renE a b, if d1.renE a b = 0 ∧ a ≠ b then d1.change ⟨a, b, some ((mget d1.now a).getD 0)⟩ else d1)
/-- names of one directory in place of those that stay -/
def merge (now stays : Nms) (n : Pth) : Nms := (now.filter (fun x => dirP x.1 = n)).foldl (fun l x => nput l x.1 x.2) (stays.filter (fun x => !decide (dirP x.1 = n)))
def Dk.stayD (d : Dk) (n : Pth) : Dk := { d with stays := merge d.now d.stays n, log := d.log.filter (fun c => !decide (c.dir = n)) }
def dirE (n : Pth) : Nat := if n ≠ [] ∧ nameB n = false then 7 else 0
def Dk.syncDir (d : Dk) (n : Pth) : Nat × Dk :=
  let (g, d1) := d.begin
  if g = false then (11, d1) else (dirE n, if dirE n = 0 then d1.stayD n else d1)
def Dk.readE (d : Dk) (p : Pth) : Nat := if d.dead = true then 11 else d.look p
def Dk.readL (d : Dk) (p : Pth) : List UInt8 := if d.readE p = 0 then d.wasL p else []
def Dk.listE (d : Dk) (n : Pth) : Nat := if d.dead = true then 11 else dirE n
def Dk.stop (d : Dk) (n : Nat) : Dk := { d with left := n }
/-- a pick -/
def pickN (picks : List Int) (at_ of : Nat) : Nat := if at_ < picks.length then (picks.getD at_ 0 % (of : Int)).toNat else 0
/-- names of directories: what a crash leaves of each -/
def crashD (picks : List Int) (d : Dk) (s : Nms × Nat) (n : Pth) : Nms × Nat :=
  if d.chgs n = [] then s else (apl ((d.chgs n).take (pickN picks s.2 ((d.chgs n).length + 1))) s.1, s.2 + 1)
def crashF (picks : List Int) (s : List Fdt × Nat) (x : Pth × Nat) : List Fdt × Nat :=
  let f := fget s.1 x.2
  if f.w = [] then s
  else
    let b := wayW f.w f.stays (pickN picks s.2 (waysF f.w))
    (s.1.set x.2 ⟨b, b, []⟩, s.2 + 1)
def insP : List Pth → Pth → List Pth
  | [], p => [p]
  | x :: l, p => if blt x p then x :: insP l p else if x = p then x :: l else p :: x :: l
def Dk.dirty (d : Dk) : List Pth := (d.log.map Chg.dir).foldl insP []
def Dk.crashN (d : Dk) (picks : List Int) : Nms × Nat := d.dirty.foldl (crashD picks d) (d.stays, 0)
def Dk.crashA (d : Dk) (picks : List Int) : List Fdt × Nat := (d.crashN picks).1.foldl (crashF picks) (d.fs, (d.crashN picks).2)
def Dk.crash (d : Dk) (picks : List Int) : Dk :=
  { d with fs := (d.crashA picks).1, now := (d.crashN picks).1, stays := (d.crashN picks).1, log := [], left := 0, dead := false }

theorem mem_insP {l : List Pth} {p q : Pth} : q ∈ insP l p ↔ q = p ∨ q ∈ l := by
  induction l with
  | nil => simp [insP]
  | cons x l ih =>
    unfold insP
    split
    · simp only [List.mem_cons, ih]
      constructor
      · rintro (h | h | h)
        · exact .inr (.inl h)
        · exact .inl h
        · exact .inr (.inr h)
      · rintro (h | h | h)
        · exact .inr (.inl h)
        · exact .inl h
        · exact .inr (.inr h)
    · split
      · rename_i h; subst h
        simp only [List.mem_cons]
        constructor
        · rintro (h | h)
          · exact .inl h
          · exact .inr (.inr h)
        · rintro (h | h | h)
          · exact .inl h
          · exact .inl h
          · exact .inr h
      · simp only [List.mem_cons]
theorem rise_insP {l : List Pth} (h : Rise l) (p : Pth) : Rise (insP l p) := by
  induction l with
  | nil => exact List.pairwise_singleton _ _
  | cons x l ih =>
    unfold Rise at h ⊢
    have h0 := h
    rw [List.pairwise_cons] at h
    unfold insP
    split
    · rename_i h1
      rw [List.pairwise_cons]
      refine ⟨fun y hy => ?_, ih h.2⟩
      rcases mem_insP.1 hy with e | hy
      · rw [e]; exact h1
      · exact h.1 y hy
    · rename_i h1
      split
      · exact h0
      · rename_i h2
        have h3 : blt p x := Classical.byContradiction (fun h3 => h2 (blt_total h1 h3))
        rw [List.pairwise_cons]
        refine ⟨fun y hy => ?_, h0⟩
        rcases List.mem_cons.1 hy with e | hy
        · rw [e]; exact h3
        · exact blt_trans h3 (h.1 y hy)
theorem foldl_insP (m : List Pth) : ∀ {l : List Pth}, Rise l → Rise (m.foldl insP l) ∧ ∀ q, q ∈ m.foldl insP l ↔ q ∈ m ∨ q ∈ l := by
  induction m with
  | nil => intro l h; exact ⟨h, fun q => by simp⟩
  | cons p m ih =>
    intro l h
    obtain ⟨h1, h2⟩ := ih (rise_insP h p)
    refine ⟨h1, fun q => ?_⟩
    rw [List.foldl_cons, h2, mem_insP, List.mem_cons]
    constructor
    · rintro (h | h | h)
      · exact .inl (.inr h)
      · exact .inl (.inl h)
      · exact .inr h
    · rintro ((h | h) | h)
      · exact .inr (.inl h)
      · exact .inl h
      · exact .inr (.inr h)
theorem Dk.dirty_rise (d : Dk) : Rise d.dirty := (foldl_insP _ List.Pairwise.nil).1
theorem Dk.mem_dirty (d : Dk) (n : Pth) : n ∈ d.dirty ↔ d.chgs n ≠ [] := by
  unfold Dk.dirty
  rw [(foldl_insP _ List.Pairwise.nil).2]
  unfold Dk.chgs
  rw [ne_eq, List.filter_eq_nil_iff]
  simp
theorem crashD_skip {picks : List Int} {d : Dk} {s : Nms × Nat} {n : Pth} (h : d.chgs n = []) : crashD picks d s n = s := by unfold crashD; rw [if_pos h]
theorem crashN_of (d : Dk) (picks : List Int) : ∀ (L : List Pth) (s : Nms × Nat), L.foldl (crashD picks d) s = (L.filter (fun n => !(d.chgs n).isEmpty)).foldl (crashD picks d) s := by
  intro L
  induction L with
  | nil => intro s; rfl
  | cons n L ih =>
    intro s
    rw [List.foldl_cons]
    by_cases h : d.chgs n = []
    · rw [List.filter_cons_of_neg (by simp [h]), crashD_skip h, ih]
    · rw [List.filter_cons_of_pos (by simpa using h), List.foldl_cons, ih]
/-- any rising row of directories that has all those with changes leads to the same -/
theorem Dk.crashN_any (d : Dk) (picks : List Int) {L : List Pth} (hL : Rise L) (h : ∀ n, d.chgs n ≠ [] → n ∈ L) : L.foldl (crashD picks d) (d.stays, 0) = d.crashN picks := by
  unfold Dk.crashN
  rw [crashN_of]
  congr 1
  refine rise_ext (List.Pairwise.filter _ hL) d.dirty_rise (fun n => ?_)
  rw [List.mem_filter, d.mem_dirty]
  constructor
  · rintro ⟨_, h2⟩; simpa using h2
  · intro h2; exact ⟨h n h2, by simpa using h2⟩
theorem mget_fold (l : Nms) : ∀ (m : Nms) (q : Pth), Asc l → mget (l.foldl (fun l x => nput l x.1 x.2) m) q = match mget l q with | some i => some i | none => mget m q := by
  induction l with
  | nil => intro m q _; rfl
  | cons x l ih =>
    intro m q h
    unfold Asc at h
    rw [List.pairwise_cons] at h
    rw [List.foldl_cons, ih _ _ h.2, mget_nput]
    simp only [mget]
    by_cases hq : q = x.1
    · have : mget l q = none := Option.not_isSome_iff_eq_none.1 (fun c => by
        rw [isSome_iff_key] at c
        obtain ⟨z, hz, e⟩ := List.mem_map.1 c
        exact blt_ne (h.1 z hz) (by rw [e, hq]))
      rw [if_pos hq, if_pos hq, this]
    · rw [if_neg hq, if_neg hq]
theorem mget_merge {now stays : Nms} (h : Asc now) (n q : Pth) : mget (merge now stays n) q = if dirP q = n then mget now q else mget stays q := by
  unfold merge
  rw [mget_fold _ _ _ (h.filter _), mget_filter (f := fun p => decide (dirP p = n)), mget_filter (f := fun p => !decide (dirP p = n))]
  by_cases hq : dirP q = n
  · simp only [hq, decide_true, if_true, Bool.not_true, Bool.false_eq_true, if_false]
    cases mget now q <;> rfl
  · simp [hq]
theorem asc_fold (l : Nms) : ∀ m : Nms, Asc m → Asc (l.foldl (fun l x => nput l x.1 x.2) m) := by
  induction l with
  | nil => intro m h; exact h
  | cons x l ih => intro m h; exact ih _ (asc_nput h _ _)
theorem asc_merge {now stays : Nms} (h : Asc stays) (n : Pth) : Asc (merge now stays n) := asc_fold _ _ (h.filter _)
end Go.Proofs.YtdliddjkacbggaaGreatDoor.E
/-
  A journal's bytes, as plain data: what is written, what is read; what a torn end is read as.
-/
namespace Go.Proofs.YtdliddjkacbggaaGreatDoor.WalA
open Go.Proofs.YtdliddjkacbggaaGreatDoor.E Go.RowKit Go.Proofs.YtdliddjkacbggaaGreatDoor.Num Go.Proofs.YtdliddjkacbggaaGreatDoor.DelA Go.Proofs.YtdliddjkacbggaaGreatDoor.SumF
set_option maxRecDepth 20000
set_option linter.unusedVariables false
set_option linter.unusedSimpArgs false
set_option linter.unusedSectionVars false

abbrev Rec := List UInt8
def W8 : List UInt8 := [83, 76, 86, 71, 87, 65, 76, 49]
def chkW (n : Nat) (r : Rec) : List UInt8 := (sumOf (Num.numL 8 (UInt64.ofNat n) ++ r)).take 8
def layW (n : Nat) (r : Rec) : List UInt8 := be32 r.length ++ (chkW n r ++ r)
def recW (n : Nat) (r : Rec) : List UInt8 := layW n r ++ [67]
def encN : Nat → List Rec → List UInt8
  | _, [] => []
  | n, r :: l => recW n r ++ encN (n + 1) l
def encW (l : List Rec) : List UInt8 := W8 ++ encN 0 l
theorem chkW_len (n : Nat) (r : Rec) : (chkW n r).length = 8 := by unfold chkW; rw [List.length_take, sumOf_len]; rfl
theorem layW_len (n : Nat) (r : Rec) : (layW n r).length = 12 + r.length := by unfold layW; rw [List.length_append, List.length_append, chkW_len, be32_len]; omega
theorem recW_len (n : Nat) (r : Rec) : (recW n r).length = 13 + r.length := by unfold recW; rw [List.length_append, layW_len]; simp; omega
theorem encN_app : ∀ (a b : List Rec) (n : Nat), encN n (a ++ b) = encN n a ++ encN (n + a.length) b
  | [], b, n => rfl
  | r :: a, b, n => by rw [List.cons_append, encN, encN_app a b (n + 1), encN, List.append_assoc, List.length_cons, show n + 1 + a.length = n + (a.length + 1) by omega]
theorem encW_snoc (l : List Rec) (r : Rec) : encW (l ++ [r]) = encW l ++ recW l.length r := by unfold encW; rw [encN_app, List.append_assoc]; simp [encN]
theorem encN_len : ∀ (l : List Rec) (n : Nat), (encN n l).length = (l.map (fun r => 13 + r.length)).sum
  | [], n => rfl
  | r :: l, n => by rw [encN, List.length_append, encN_len l, recW_len]; simp
theorem encW_len (l : List Rec) : (encW l).length = 8 + (l.map (fun r => 13 + r.length)).sum := by unfold encW; rw [List.length_append, encN_len]; rfl
/-- the record at the front of bytes -/
def big (b : List UInt8) : Nat := bev 0 (b.take 4)
def oneW (n : Nat) (b : List UInt8) : Option Rec :=
  if b.length ≤ 12 ∨ 1048576 < big b ∨ b.length - 12 ≤ big b then none
  else if b.getD (12 + big b) 0 = 67 ∧ (b.drop 4).take 8 = chkW n ((b.drop 12).take (big b)) then some ((b.drop 12).take (big b)) else none
theorem oneW_len {n : Nat} {b : List UInt8} {r : Rec} (h : oneW n b = some r) : r.length = big b ∧ 13 + r.length ≤ b.length ∧ r.length ≤ 1048576 := by
  unfold oneW at h
  split at h
  · cases h
  · rename_i h1
    split at h
    · have e := Option.some.inj h
      rw [← e, List.length_take, List.length_drop]; omega
    · cases h
def parF : Nat → Nat → List UInt8 → List Rec
  | 0, _, _ => []
  | f + 1, n, b => match oneW n b with
    | none => []
    | some r => r :: parF f (n + 1) (b.drop (13 + r.length))
theorem parF_ext : ∀ (f g n : Nat) (b : List UInt8), b.length ≤ f → b.length ≤ g → parF f n b = parF g n b
  | 0, 0, _, _, _, _ => rfl
  | 0, g + 1, n, b, h, _ => by
    have : oneW n b = none := by unfold oneW; rw [if_pos (.inl (by omega))]
    simp [parF, this]
  | f + 1, 0, n, b, _, h => by
    have : oneW n b = none := by unfold oneW; rw [if_pos (.inl (by omega))]
    simp [parF, this]
  | f + 1, g + 1, n, b, h1, h2 => by
    unfold parF
    cases h : oneW n b with
    | none => rfl
    | some r =>
      have := oneW_len h
      simp only
      rw [parF_ext f g (n + 1) _ (by rw [List.length_drop]; omega) (by rw [List.length_drop]; omega)]
def parP (n : Nat) (b : List UInt8) : List Rec := parF b.length n b
theorem parP_stop {n : Nat} {b : List UInt8} (h : oneW n b = none) : parP n b = [] := by
  unfold parP
  cases hb : b.length with
  | zero => rfl
  | succ f => simp [parF, h]
theorem parP_step {n : Nat} {b : List UInt8} {r : Rec} (h : oneW n b = some r) : parP n b = r :: parP (n + 1) (b.drop (13 + r.length)) := by
  have h1 := oneW_len h
  unfold parP
  rw [parF_ext b.length (b.length + 1) n b (Nat.le_refl _) (by omega), parF, h]
  show r :: parF b.length (n + 1) (b.drop (13 + r.length)) = _
  rw [parF_ext b.length _ (n + 1) (b.drop (13 + r.length)) (by rw [List.length_drop]; omega) (Nat.le_refl _)]
theorem big_lay (n : Nat) (r : Rec) (t : List UInt8) (h : r.length < 4294967296) : big (layW n r ++ t) = r.length := by
  unfold big layW
  rw [List.append_assoc, List.take_left' (be32_len _), bev_be32 _ h]
theorem oneW_rec (n : Nat) (r : Rec) (t : List UInt8) (h : r.length ≤ 1048576) : oneW n (recW n r ++ t) = some r := by
  have e : recW n r ++ t = be32 r.length ++ (chkW n r ++ (r ++ (67 :: t))) := by unfold recW layW; simp
  have hb : big (recW n r ++ t) = r.length := by unfold recW; rw [List.append_assoc, big_lay n r _ (by omega)]
  have hl : (recW n r ++ t).length = 13 + r.length + t.length := by rw [List.length_append, recW_len]
  have e12 : (recW n r ++ t).drop 12 = r ++ (67 :: t) := by
    rw [e, ← List.append_assoc, List.drop_left' (by rw [List.length_append, chkW_len, be32_len])]
  have e4 : ((recW n r ++ t).drop 4).take 8 = chkW n r := by
    rw [e, List.drop_left' (be32_len _), List.take_left' (chkW_len _ _)]
  have er : ((recW n r ++ t).drop 12).take r.length = r := by rw [e12, List.take_left' rfl]
  have hC : (recW n r ++ t).getD (12 + r.length) 0 = 67 := by
    have : (recW n r ++ t).getD (12 + r.length) 0 = ((recW n r ++ t).drop 12).getD r.length 0 := by
      simp only [List.getD_eq_getElem?_getD, List.getElem?_drop]
    rw [this, e12]
    simp [List.getD_eq_getElem?_getD]
  unfold oneW
  rw [hb, if_neg (by omega), er, e4, if_pos ⟨hC, rfl⟩]
theorem parP_enc : ∀ (l : List Rec) (n : Nat) (t : List UInt8), (∀ r ∈ l, r.length ≤ 1048576) → parP n (encN n l ++ t) = l ++ parP (n + l.length) t
  | [], n, t, _ => rfl
  | r :: l, n, t, h => by
    rw [encN, List.append_assoc, parP_step (oneW_rec n r _ (h r List.mem_cons_self)), List.drop_left' (recW_len n r), parP_enc l (n + 1) t (fun x hx => h x (List.mem_cons_of_mem _ hx)), List.cons_append, List.length_cons, show n + 1 + l.length = n + (l.length + 1) by omega]
theorem be32_bev : ∀ (a b c d : UInt8), be32 (bev 0 [a, b, c, d]) = [a, b, c, d] := fun a b c d => by
  have ha := a.toNat_lt; have hb := b.toNat_lt; have hc := c.toNat_lt; have hd := d.toNat_lt
  simp only [bev, List.foldl_cons, List.foldl_nil, be32, List.cons.injEq, and_true]
  refine ⟨?_, ?_, ?_, ?_⟩ <;> (apply UInt8.toNat.inj; rw [UInt8.toNat_ofNat']; omega)
/-- what one reads is what was written -/
theorem oneW_some {n : Nat} {b : List UInt8} {r : Rec} (h : oneW n b = some r) : b = recW n r ++ b.drop (13 + r.length) := by
  have h0 := oneW_len h
  unfold oneW at h
  split at h
  · cases h
  · rename_i h1
    split at h
    · rename_i h2
      have e := Option.some.inj h
      rw [e, ← h0.1] at h2
      have h3 : b.take 4 = be32 r.length := by
        rw [h0.1]; unfold big
        match b, h1 with
        | a :: b :: c :: d :: t, _ => exact (be32_bev a b c d).symm
      have h4 : (b.drop 12).take r.length = r := by rw [h0.1]; exact e
      have h5 : b.drop (12 + r.length) = 67 :: b.drop (13 + r.length) := by
        have hl : 12 + r.length < b.length := by omega
        rw [List.drop_eq_getElem_cons hl, show 12 + r.length + 1 = 13 + r.length by omega]
        have := h2.1
        rw [List.getD_eq_getElem?_getD, List.getElem?_eq_getElem hl] at this
        rw [show b[12 + r.length] = 67 from this]
      calc b = b.take 4 ++ b.drop 4 := (List.take_append_drop 4 b).symm
        _ = b.take 4 ++ ((b.drop 4).take 8 ++ (b.drop 4).drop 8) := congrArg (fun x => b.take 4 ++ x) (List.take_append_drop 8 (b.drop 4)).symm
        _ = be32 r.length ++ (chkW n r ++ b.drop 12) := by rw [h3, h2.2, List.drop_drop]
        _ = be32 r.length ++ (chkW n r ++ (r ++ (b.drop 12).drop r.length)) := by
          rw [show (b.drop 12) = (b.drop 12).take r.length ++ (b.drop 12).drop r.length from (List.take_append_drop _ _).symm, h4]
          rw [List.drop_left' rfl]
        _ = recW n r ++ b.drop (13 + r.length) := by rw [List.drop_drop, h5]; unfold recW layW; simp
    · cases h
/-! ### a journal -/
def parE (b : List UInt8) : Nat := if b.take 8 = W8 then 0 else 16
def parL (b : List UInt8) : List Rec := if b.take 8 = W8 then parP 0 (b.drop 8) else []
def parS (b : List UInt8) : Nat := if b.take 8 = W8 then (encW (parL b)).length else 0
theorem enc_take (l : List Rec) (t : List UInt8) : (encW l ++ t).take 8 = W8 := by unfold encW; rw [List.append_assoc, List.take_left' (show W8.length = 8 from rfl)]
theorem parE_enc (l : List Rec) (t : List UInt8) : parE (encW l ++ t) = 0 := by unfold parE; rw [if_pos (enc_take l t)]
theorem parL_enc (l : List Rec) (t : List UInt8) (h : ∀ r ∈ l, r.length ≤ 1048576) : parL (encW l ++ t) = l ++ parP l.length t := by
  unfold parL
  rw [if_pos (enc_take l t)]
  unfold encW
  rw [List.append_assoc, List.drop_left' (show W8.length = 8 from rfl), parP_enc l 0 t h, Nat.zero_add]
theorem parL_all {l : List Rec} (h : ∀ r ∈ l, r.length ≤ 1048576) : parL (encW l) = l := by
  have := parL_enc l [] h
  rw [List.append_nil, parP_stop (by simp [oneW]), List.append_nil] at this; exact this
theorem parP_max : ∀ (f : Nat) (n : Nat) (b : List UInt8), ∀ r ∈ parF f n b, r.length ≤ 1048576
  | 0, _, _, r, h => by cases h
  | f + 1, n, b, r, h => by
    unfold parF at h
    split at h
    · cases h
    · rename_i x hx
      rcases List.mem_cons.1 h with e | h
      · rw [e]; exact (oneW_len hx).2.2
      · exact parP_max f _ _ r h
theorem parL_max (b : List UInt8) : ∀ r ∈ parL b, r.length ≤ 1048576 := fun r h => by
  unfold parL at h
  split at h
  · exact parP_max _ _ _ r h
  · cases h
theorem parP_pre : ∀ (f n : Nat) (b : List UInt8), b.length ≤ f → ∃ t, b = encN n (parP n b) ++ t ∧ oneW (n + (parP n b).length) t = none
  | 0, n, b, h => by
    have : oneW n b = none := by unfold oneW; rw [if_pos (.inl (by omega))]
    rw [parP_stop this]; exact ⟨b, rfl, by simpa using this⟩
  | f + 1, n, b, h => by
    cases ho : oneW n b with
    | none => rw [parP_stop ho]; exact ⟨b, rfl, by simpa using ho⟩
    | some r =>
      have h1 := oneW_len ho
      obtain ⟨t, e, h2⟩ := parP_pre f (n + 1) (b.drop (13 + r.length)) (by rw [List.length_drop]; omega)
      rw [parP_step ho]
      refine ⟨t, ?_, by rw [List.length_cons, show n + ((parP (n + 1) (b.drop (13 + r.length))).length + 1) = n + 1 + (parP (n + 1) (b.drop (13 + r.length))).length by omega]; exact h2⟩
      rw [encN, List.append_assoc, ← e]
      exact oneW_some ho
/-- bytes are their records, and a rest that begins with none -/
theorem parL_pre {b : List UInt8} (h : parE b = 0) : ∃ t, b = encW (parL b) ++ t ∧ oneW (parL b).length t = none := by
  have h8 : b.take 8 = W8 := by unfold parE at h; split at h; assumption; cases h
  obtain ⟨t, e, h2⟩ := parP_pre _ 0 (b.drop 8) (Nat.le_refl _)
  have e2 : parL b = parP 0 (b.drop 8) := by unfold parL; rw [if_pos h8]
  refine ⟨t, ?_, by rw [e2]; simpa using h2⟩
  rw [e2]; unfold encW
  rw [List.append_assoc, ← e, ← h8, List.take_append_drop]
/-! ### a torn end -/
/-- what was laid, in part, noughts behind it, not longer than the whole: no record -/
theorem torn_none (n : Nat) (r : Rec) (k z : Nat) (h : k + z ≤ 12 + r.length) (hr : r.length ≤ 1048576) : oneW n ((layW n r).take k ++ List.replicate z 0) = none := by
  have hk : ((layW n r).take k).length = k := by rw [List.length_take, layW_len]; omega
  have hl : ((layW n r).take k ++ List.replicate z (0 : UInt8)).length = k + z := by rw [List.length_append, hk, List.length_replicate]
  unfold oneW
  by_cases h12 : k + z ≤ 12
  · rw [if_pos (.inl (by omega))]
  by_cases hk4 : 4 ≤ k
  · have hb : big ((layW n r).take k ++ List.replicate z 0) = r.length := by
      have : ((layW n r).take k ++ List.replicate z (0 : UInt8)).take 4 = (layW n r).take 4 := by
        rw [List.take_append_of_le_length (by omega), List.take_take, Nat.min_eq_left hk4]
      have e2 := big_lay n r [] (by omega)
      rw [List.append_nil] at e2
      unfold big at e2 ⊢
      rw [this, e2]
    rw [if_pos (.inr (.inr (by rw [hb, hl]; omega)))]
  · by_cases h9 : ((layW n r).take k ++ List.replicate z (0 : UInt8)).length ≤ 12 ∨ 1048576 < big ((layW n r).take k ++ List.replicate z 0) ∨ ((layW n r).take k ++ List.replicate z (0 : UInt8)).length - 12 ≤ big ((layW n r).take k ++ List.replicate z 0)
    · rw [if_pos h9]
    · rw [if_neg h9, if_neg]
      rintro ⟨h1, _⟩
      have : ((layW n r).take k ++ List.replicate z (0 : UInt8)).getD (12 + big ((layW n r).take k ++ List.replicate z 0)) 0 = 0 := by
        rw [List.getD_eq_getElem?_getD, List.getElem?_append_right (by omega), List.getElem?_replicate]
        split <;> rfl
      rw [this] at h1; cases h1
theorem lay_none (n : Nat) (r : Rec) (hr : r.length ≤ 1048576) : oneW n (layW n r) = none := by
  have := torn_none n r (12 + r.length) 0 (by omega) hr
  rwa [List.take_of_length_le (by rw [layW_len]; omega), List.replicate_zero, List.append_nil] at this
theorem lay0_none (n : Nat) (r : Rec) (hr : r.length ≤ 1048576) : oneW n (layW n r ++ [0]) = none := by
  have hb := big_lay n r [0] (by omega)
  have hl : (layW n r ++ [(0 : UInt8)]).length = 13 + r.length := by rw [List.length_append, layW_len]; simp; omega
  unfold oneW
  rw [hb, if_neg (by omega), if_neg]
  rintro ⟨h1, _⟩
  rw [List.getD_eq_getElem?_getD, List.getElem?_append_right (by rw [layW_len]; omega), layW_len, Nat.sub_self] at h1
  cases h1

end Go.Proofs.YtdliddjkacbggaaGreatDoor.WalA
/-
  Families of rows that are ours, one for each key; histories above a heap's size: no condition.
-/
namespace Go.Proofs.YtdliddjkacbggaaGreatDoor.E
set_option linter.unusedVariables false
set_option linter.unusedSimpArgs false
set_option linter.unusedSectionVars false
/-- numbers that are 0 or above h -/
def BL (h : Nat) (ks : List Nat) : Prop := ∀ k ∈ ks, Nx 0 h k
section
variable {h k kk : Nat} {ks : List Nat} {G F : Nat → Prop} {H0 H H' : Heap}
theorem BL.nil : BL h [] := fun k hk => by cases hk
theorem BL.cons (d : Nx 0 h k) (e : BL h ks) : BL h (k :: ks) := fun j hj => by
  rcases List.mem_cons.1 hj with rfl | hj
  · exact d
  · exact e j hj
theorem Nx.z {a : Nat} (x : Nx 0 h k) : Nx a h k := by unfold Nx at *; omega
end
section
variable {κ β : Type} [DecidableEq κ] {fk : κ → Value} {fv : β → Value} {b m r : Nat} {l : List (κ × β)} {es : Array MapEntry} {clock : Nat} {dn : List κ} {H H' : Heap}
end
/-- rows that are ours, one for each key, of blocks that are told -/
structure Fam {κ α : Type} (G : Nat → Prop) (e : TypeId) (H : Heap) (f : α → List Value) (sz : Nat) (val : κ → Value) (ch : κ → List α) : Prop where
  ex : ∃ nm : κ → Nat, (∀ p, Ow (nm p) e H f sz (val p) (ch p)) ∧ (∀ p q, p ≠ q → Dj (nm p) (nm q)) ∧ ∀ p b, b + 1 = nm p → G b
section
variable {κ α : Type} {G : Nat → Prop} {e : TypeId} {H H' : Heap} {f : α → List Value} {sz : Nat} {val : κ → Value} {ch : κ → List α} {ks : List Nat}
theorem Fam.none (hf : ∀ x, (f x).length = sz) (h1 : ∀ x, ∀ u ∈ f x, u.oneCell' = true) : Fam G e H f sz (fun _ : κ => .slice none 0 0) (fun _ => ([] : List α)) :=
  ⟨fun _ => 0, fun p => ⟨(Ow.nil hf h1).own, Nat.zero_le _⟩, fun p q _ => Dj.z, fun p b (hb : b + 1 = 0) => absurd hb (by omega)⟩
theorem Fam.nw (h : Fam G e H f sz val ch) (s : Nw H H') : Fam G e H' f sz val ch := by
  obtain ⟨nm, h1, h2, h3⟩ := h.ex
  exact ⟨nm, fun p => (h1 p).nw s, h2, h3⟩
theorem Fam.upL (h : Fam G e H f sz val ch) (s : Mo (Ms ks) H H') (d : DFL G ks) : Fam G e H' f sz val ch := by
  obtain ⟨nm, h1, h2, h3⟩ := h.ex
  exact ⟨nm, fun p => (h1 p).up s (fun b _ hb hm => d (b + 1) hm b (h3 p b hb) rfl), h2, h3⟩
theorem Fam.row (h : Fam G e H f sz val ch) (p : κ) : Rd G H f sz (val p) (ch p) := by
  obtain ⟨nm, h1, h2, h3⟩ := h.ex
  exact (h1 p).rd.imp (fun b _ hb => h3 p b hb)
theorem Fam.at [DecidableEq κ] (h : Fam G e H f sz val ch) (p : κ) : ∃ kk, Ow kk e H f sz (val p) (ch p) ∧ (∀ b, b + 1 = kk → G b) ∧
    ∀ H' k2 r l', Mo (Ms [kk]) H H' → Ow k2 e H' f sz r l' → Nx kk H.size k2 → Fam (fun b => G b ∨ b + 1 = k2) e H' f sz (fun q => if q = p then r else val q) (fun q => if q = p then l' else ch q) := by
  obtain ⟨nm, h1, h2, h3⟩ := h.ex
  refine ⟨nm p, h1 p, h3 p, fun H' k2 r l' s hr hk => ⟨fun q => if q = p then k2 else nm q, fun q => ?_, fun a b hab => ?_, fun q b hb => ?_⟩⟩
  · by_cases hq : q = p
    · simp only [hq, if_true]; exact hr
    · simp only [hq, if_false]
      exact (h1 q).upL s (DL.cons (h2 q p hq) DL.nil)
  · by_cases ha : a = p <;> by_cases hb : b = p
    · exact absurd (ha.trans hb.symm) hab
    · simp only [ha, hb, if_true, if_false]; exact (Dj.app (h2 b p hb) (h1 b).le hk).symm
    · simp only [ha, hb, if_true, if_false]; exact Dj.app (h2 a p ha) (h1 a).le hk
    · simp only [ha, hb, if_false]; exact h2 a b hab
  · by_cases hq : q = p
    · simp only [hq, if_true] at hb; exact .inr hb
    · simp only [hq, if_false] at hb; exact .inl (h3 q b hb)
end
end Go.Proofs.YtdliddjkacbggaaGreatDoor.E
/-
  A range over a function: the rounds of its body, the call of yield, what stays behind: no condition.
-/
namespace Go.Proofs.YtdliddjkacbggaaGreatDoor.E
set_option linter.unusedVariables false
set_option linter.unusedSimpArgs false
set_option linter.unusedSectionVars false
/-- the fence that lets all in, in a round or in none -/
abbrev FW (ro : Option Nat) : Fence := { Fence.wide with round := ro }
/-- the block b is a loop's record -/
structure Lpr (H : Heap) (b : Nat) (r : Loop) : Prop where
  at_ : H[b]? = some (.loop r)
/-- the block b bears the calls that were put off -/
structure Dfr (H : Heap) (b : Nat) : Prop where
  at_ : H[b]? = some (.deferred (some []))
section
variable {H H' : Heap} {b : Nat} {r : Loop} {ks : List Nat}
theorem Lpr.lt (h : Lpr H b r) : b < H.size := (Array.getElem?_eq_some_iff.1 h.at_).1
theorem Lpr.le (h : Lpr H b r) : b + 1 ≤ H.size := h.lt
theorem Lpr.up {S : Nat → Prop} (h : Lpr H b r) (s : Mo S H H') (hS : ¬ S b) : Lpr H' b r := ⟨by rw [s.same b h.lt hS]; exact h.at_⟩
theorem Lpr.nw (h : Lpr H b r) (s : Nw H H') : Lpr H' b r := h.up s (fun e => e)
theorem Lpr.upL (h : Lpr H b r) (s : Mo (Ms ks) H H') (d : DL (b + 1) ks) : Lpr H' b r := h.up s (fun h2 => d (b + 1) h2 b rfl rfl)
theorem Dfr.lt (h : Dfr H b) : b < H.size := (Array.getElem?_eq_some_iff.1 h.at_).1
theorem Dfr.le (h : Dfr H b) : b + 1 ≤ H.size := h.lt
theorem Dfr.up {S : Nat → Prop} (h : Dfr H b) (s : Mo S H H') (hS : ¬ S b) : Dfr H' b := ⟨by rw [s.same b h.lt hS]; exact h.at_⟩
theorem Dfr.nw (h : Dfr H b) (s : Nw H H') : Dfr H' b := h.up s (fun e => e)
theorem Dfr.upL (h : Dfr H b) (s : Mo (Ms ks) H H') (d : DL (b + 1) ks) : Dfr H' b := h.up s (fun h2 => d (b + 1) h2 b rfl rfl)
end
theorem Var.le {e : TypeId} {H : Heap} {b : Nat} {cs : List Value} (h : Var e H b cs) : b + 1 ≤ H.size := h.lt
/-- operations in the text's order, within a fence that lets all in -/
def LRI (ro : Option Nat) (P : Program) (w0 : World) (ops : Array Oper) (Q : Exit → Act → World → Prop) (n : Nat) (l : FL) (rest : List Oper) (H : Heap) : Prop :=
  ∀ a w, Fr n l a → At w0 H w → wpListIn (FW ro) 0 P ops Q rest a w
/-- yield, called with these: a round -/
def YCt (P : Program) (w0 : World) (lp : Nat) (args : List Value) (H : Heap) (R : Value → Heap → Prop) : Prop :=
  ∀ w, At w0 H w → YieldAt (FW none) 0 P lp args.toArray w (fun e w' => ∃ r H', e = .returned r ∧ At w0 H' w' ∧ R r H')
section
variable {ro : Option Nat} {P : Program} {w0 : World} {Q : Exit → Act → World → Prop} {n : Nat} {l : FL} {H : Heap} {ops : Array Oper} {rest : List Oper} {o : Oper}
theorem LRI.nil (h : QN w0 Q n l H) : LRI ro P w0 ops Q n l [] H := fun a w hf ha => h a w hf ha
theorem LRI.v {v : Value} {d : Nat} (hy : Y P w0 n l H o v) (hnd : ∀ c, o.op ≠ .defer c) (hw : Wd ops l o) (hd : o.dst = some d) (hn : Nat.blt d n = true) (h : LRI ro P w0 ops Q n ((d, v) :: l) rest H) : LRI ro P w0 ops Q n l (o :: rest) H := by
  intro a w hf ha
  have hp := hf.put hn v
  rw [← hd] at hp
  unfold wpListIn
  rw [if_pos (hw n a hf)]
  refine ⟨fun _ _ => trivial, ?_⟩
  rw [Oper.semAt_eq _ _ _ hnd, hy a w hf ha]
  exact h _ w hp ha
theorem LRI.z {R : Value → Heap → Prop} {d : Nat} (hz : Z P w0 n l H o R) (hnd : ∀ c, o.op ≠ .defer c) (hw : Wd ops l o) (hd : o.dst = some d) (hn : Nat.blt d n = true) (h : ∀ v H', R v H' → LRI ro P w0 ops Q n ((d, v) :: l) rest H') : LRI ro P w0 ops Q n l (o :: rest) H := by
  intro a w hf ha
  obtain ⟨v, H', w', hr, ha', hR⟩ := hz a w hf ha
  have hp := hf.put hn v
  rw [← hd] at hp
  unfold wpListIn
  rw [if_pos (hw n a hf)]
  refine ⟨fun _ _ => trivial, ?_⟩
  rw [Oper.semAt_eq _ _ _ hnd, hr]
  exact h v H' hR _ w' hp ha'
theorem LRI.s {R : Heap → Prop} (hz : S P w0 n l H o R) (hnd : ∀ c, o.op ≠ .defer c) (hw : Wd ops l o) (hd : o.dst = none) (h : ∀ H', R H' → LRI ro P w0 ops Q n l rest H') : LRI ro P w0 ops Q n l (o :: rest) H := by
  intro a w hf ha
  obtain ⟨H', w', hr, ha', hR⟩ := hz a w hf ha
  unfold wpListIn
  rw [if_pos (hw n a hf)]
  refine ⟨fun _ _ => trivial, ?_⟩
  rw [Oper.semAt_eq _ _ _ hnd, hr]
  show wpListIn (FW ro) 0 P ops Q rest (a.put o.dst undef) w'
  rw [hd]
  exact h H' hR a w' hf ha'
theorem LRI.round {R : Value → Heap → Prop} {d lp : Nat} {c : Operand} {args : List Operand} {ats : Array TypeId} {vs : List Value} (ho : o.op = .call { callee := .value c, args := args.toArray, argTypes := ats })
    (hcv : opv l c = some (.func (.yield lp) #[] #[])) (hv : opvs l args = some vs) (hw : Wd ops l o) (hd : o.dst = some d) (hn : Nat.blt d n = true) (hc : YCt P w0 lp vs H R)
    (h : ∀ v H', R v H' → LRI none P w0 ops Q n ((d, v) :: l) rest H') : LRI none P w0 ops Q n l (o :: rest) H := by
  intro a w hf ha
  obtain ⟨fn, tmps, assign, body, hy, hr⟩ := hc w ha
  have he : (execOp a.eval o).run P w = .ok (.round lp fn tmps assign body) w := by
    have h2 := hf.evals hv
    have h3 : (args.toArray.map a.eval) = vs.toArray := by rw [List.map_toArray, h2]
    simp [execOp, ho, resolve, Deferred.ofValue, hf.eval hcv, invoke, h2, hy]
  unfold wpListIn
  rw [if_pos (hw n a hf)]
  refine ⟨fun _ _ => trivial, ?_⟩
  rw [Oper.semAt_eq _ _ _ (by intro c e; rw [ho] at e; cases e), he, Oper.uponIn_round]
  refine ⟨fun q => (by cases q), ?_⟩
  refine hr.mono ?_
  rintro e w' ⟨r, H', rfl, ha', hR⟩
  have hp := hf.put hn r
  rw [← hd] at hp
  exact h r H' hR _ w' hp ha'
theorem CW.region_in {id : Nat} {lo : List Oper} (h : LRI none P w0 lo.toArray Q n l lo H) : CW P w0 Q n l (.region id lo.toArray false) H :=
  fun a w hf ha => wpIn_wide.1 (wpIn_region_lit (h a w hf ha))
theorem LRI.mono {Q2 : Exit → Act → World → Prop} (hq : ∀ e a w, Q e a w → Q2 e a w) {id : Nat} {lo : List Oper} (h : LRI ro P w0 lo.toArray Q n l lo H) {a : Act} {w : World} (hf : Fr n l a) (ha : At w0 H w) : (Code.region id lo.toArray false).wpIn (FW ro) 0 P Q2 a w :=
  Code.wpIn_mono hq (wpIn_region_lit (h a w hf ha))
/-- a round out of the walks of its two pieces of code -/
theorem YCt.of {r : Loop} {x : Value} {p lp ida idb idc : Nat} {la lb : List Oper} {R : Value → Heap → Prop} (hl : Lpr H lp r) (hst : r.state = .ready) (hpe : r.pending = none) (hps : r.params = #[p]) (hA : r.assign = .region ida la.toArray false) (hB : r.body = .block idb (.region idc lb.toArray false))
    (hf : Fr n l { tmps := r.tmps.setIfInBounds p x, defers := [] })
    (h : LRI (some lp) P w0 la.toArray (fun e a1 w1 => e = .normal ∧ ∃ l2 H2, Fr n l2 a1 ∧ At w0 H2 w1 ∧ Lpr H2 lp r ∧
      LRI (some lp) P w0 lb.toArray (fun e a3 w3 => e = .normal ∧ ∃ H3, At w0 H3 w3 ∧ Lpr H3 lp { r with state := .busy } ∧ R (.bool true) (H3.setIfInBounds lp (.loop r))) n l2 lb (H2.setIfInBounds lp (.loop { r with state := .busy }))) n l la H) :
    YCt P w0 lp [x] H R := by
  intro w ha
  have hlw : w.heap[lp]? = some (.loop r) := by rw [ha.heap]; exact hl.at_
  refine ⟨r.fn, r.tmps.setIfInBounds p x, r.assign, r.body, ?_, ?_⟩
  · have := run_yield (P := P) (args := #[x]) hlw (by rw [hps]; rfl)
    rw [hps] at this
    simpa using this
  · refine roundIn_of_wpIn (F := FW none) trivial ?_
    rw [hA, hB]
    refine LRI.mono (ro := some lp) ?_ h hf ha
    rintro e a1 w1 ⟨rfl, l2, H2, hf2, ha2, hl2, hb⟩
    have hlw2 : w1.heap[lp]? = some (.loop r) := by rw [ha2.heap]; exact hl2.at_
    refine ⟨_, run_beginRound (P := P) hlw2 hst, ?_⟩
    have ha3 : At w0 (H2.setIfInBounds lp (.loop { r with state := .busy })) (w1.putObj lp (.loop { r with state := .busy })) := by
      unfold World.putObj
      rw [ha2.heap]
      exact ha2.set
    refine wpIn_block ?_
    refine LRI.mono (ro := some lp) ?_ hb hf2 ha3
    rintro e a3 w3 ⟨rfl, H3, ha4, hl4, hR⟩
    have hlw4 : w3.heap[lp]? = some (.loop { r with state := .busy }) := by rw [ha4.heap]; exact hl4.at_
    refine ⟨_, _, run_endRound (P := P) none hlw4, .bool true, H3.setIfInBounds lp (.loop r), rfl, ?_, hR⟩
    have hr2 : ({ ({ r with state := .busy } : Loop) with state := if (none : Option Code).isNone then .ready else .done, pending := none } : Loop) = r := by
      cases r
      simp only at hst hpe
      subst hst hpe
      rfl
    rw [hr2]
    unfold World.putObj
    rw [ha4.heap]
    exact ha4.set
end
end Go.Proofs.YtdliddjkacbggaaGreatDoor.E
/-
  Things of many blocks (sets of numbers): what is apart from them: no condition.
-/
namespace Go.Proofs.YtdliddjkacbggaaGreatDoor.E
set_option linter.unusedVariables false
section
variable {F : Nat → Prop} {a k k2 h h2 m : Nat} {K K0 K2 K3 ks : List Nat}
def DKL (K ks : List Nat) : Prop := ∀ k ∈ K, DL k ks
/-- each number is an elder one, or lies behind h -/
def NxK (K : List Nat) (h : Nat) (K2 : List Nat) : Prop := ∀ k ∈ K2, k = 0 ∨ k ∈ K ∨ h < k
def BK (K : List Nat) (h : Nat) : Prop := ∀ k ∈ K, k ≤ h
theorem DL.z (h : False) : DL a K := h.elim
theorem DL.zK : DL 0 K := fun k _ => Dj.z2
theorem DL.app (d : DL a K) (e : DL a ks) : DL a (K ++ ks) := fun k hk => (List.mem_append.1 hk).elim (d k) (e k)
theorem DFL.app (d : DFL F K) (e : DFL F ks) : DFL F (K ++ ks) := fun k hk => (List.mem_append.1 hk).elim (d k) (e k)
theorem DKL.nil : DKL K [] := fun k _ => DL.nil
theorem DKL.cons (d : DL m K) (e : DKL K ks) : DKL K (m :: ks) := fun k hk => DL.cons (d k hk).symm (e k hk)
theorem DKL.app (d : DKL K K2) (e : DKL K ks) : DKL K (K2 ++ ks) := fun k hk => DL.app (d k hk) (e k hk)
theorem DKL.symm (d : DKL K K2) : DKL K2 K := fun k hk j hj => (d j hj k hk).symm
theorem MIL.app {js : List Nat} (d : MIL ks h K) (e : MIL ks h js) : MIL ks h (K ++ js) := fun k hk => (List.mem_append.1 hk).elim (d k) (e k)
theorem DL.newK (b : BK K h) : DL (h + 1) K := fun k hk => (Dj.new (b k hk)).symm
theorem DL.appK (d : DL a K) (ha : a ≤ h) (x : NxK K h K2) : DL a K2 := fun k hk => by
  rcases x k hk with e | e | e
  · subst e; exact Dj.z
  · exact d k e
  · intro c h1 h2; omega
theorem DFL.appK (d : DFL F K) (hb : BF F h) (x : NxK K h K2) : DFL F K2 := fun k hk b hF he => by
  have := hb b hF
  rcases x k hk with e | e | e
  · omega
  · exact d k e b hF he
  · omega
theorem DKL.appK (d : DKL K0 K) (b : BK K0 h) (x : NxK K h K2) : DKL K0 K2 := fun k hk => DL.appK (d k hk) (b k hk) x
theorem DL.app2 (d : DL k K) (b : BK K h) (x : Nx k h k2) : DL k2 K := fun j hj => by
  rcases x with e | e | e
  · subst e; exact Dj.z2
  · subst e; exact d j hj
  · have := b j hj; intro c h1 h2; omega
theorem NxK.refl (K : List Nat) (h : Nat) : NxK K h K := fun k hk => .inr (.inl hk)
theorem NxK.tr (x : NxK K h K2) (y : NxK K2 h2 K3) (hh : h ≤ h2) : NxK K h K3 := fun k hk => by
  rcases y k hk with e | e | e
  · exact .inl e
  · exact x k e
  · exact .inr (.inr (by omega))
theorem NxK.cons (d : Nx 0 h a) (x : NxK K h K2) : NxK K h (a :: K2) := fun k hk => by
  rcases List.mem_cons.1 hk with e | e
  · subst e; unfold Nx at d; omega
  · exact x k e
/-- a number of a set's, or none -/
def KM (K : List Nat) (k : Nat) : Prop := ∀ c, c + 1 = k → c + 1 ∈ K
theorem KM.of (h : k ∈ K) : KM K k := fun c e => by rw [e]; exact h
theorem KM.cons (h : KM K k) : KM (a :: K) k := fun c e => List.mem_cons_of_mem _ (h c e)
theorem KM.or (h : KM K k) : k = 0 ∨ k ∈ K := by
  cases k with
  | zero => exact .inl rfl
  | succ c => exact .inr (h c rfl)
theorem DL.at (d : DL a K) (m : KM K k) : Dj a k := by
  rcases m.or with e | e
  · subst e; exact Dj.z
  · exact d k e
theorem DFL.at (d : DFL F K) (m : KM K k) : DF F k := by
  rcases m.or with e | e
  · subst e; exact DF.z
  · exact d k e
theorem MIL.at (d : MIL ks h K) (m : KM K k) : MI ks h k := by
  rcases m.or with e | e
  · subst e; exact MI.z
  · exact d k e
theorem NxK.app {k0 : Nat} (x : NxK K h K2) (hm : KM K2 k0) (y : Nx k0 h2 a) (hh : h ≤ h2) : NxK K h (a :: K2) := fun k hk => by
  rcases List.mem_cons.1 hk with e | e
  · subst e
    rcases y with y | y | y
    · exact .inl y
    · rcases hm.or with e2 | e2
      · exact .inl (y.trans e2)
      · rw [y]; exact x k0 e2
    · exact .inr (.inr (by omega))
  · exact x k e
theorem NxK.consE (x : NxK K h K2) (e : a = 0 ∨ a ∈ K2 ∨ h < a) : NxK K h (a :: K2) := fun k hk => by
  rcases List.mem_cons.1 hk with q | q
  · subst q
    rcases e with e | e | e
    · exact .inl e
    · exact x k e
    · exact .inr (.inr e)
  · exact x k q
theorem DL.nxK (b : BK K h) (x : Nx 0 h a) : DL a K := fun k hk => by
  have := b k hk
  intro c h1 h2
  unfold Nx at x; omega
theorem NxK.new (hh : h < a) (x : NxK K h K2) : NxK K h (a :: K2) := NxK.cons (.inr (.inr hh)) x
theorem MIL.ofK (x : NxK K h K2) (hk : ∀ k ∈ K, k ∈ ks) : MIL ks h K2 := fun k hk2 b hb e => by
  rcases x k hk2 with e2 | e2 | e2
  · omega
  · unfold Ms; rw [e]; exact hk k e2
  · omega
theorem MIL.ofK0 (x : NxK [] h K2) : MIL ks h K2 := fun k hk2 b hb e => by
  rcases x k hk2 with e2 | e2 | e2
  · omega
  · cases e2
  · omega
theorem BL.ofK (x : NxK [] h K) : BL h K := fun k hk => by
  rcases x k hk with e | e | e
  · exact .inl e
  · cases e
  · exact .inr (.inr e)
theorem BL.app (d : BL h K) (e : BL h ks) : BL h (K ++ ks) := fun k hk => (List.mem_append.1 hk).elim (d k) (e k)
theorem DFL.above {n : Nat} (hF : ∀ b, F b → n ≤ b) (hk : BK K n) : DFL F K := fun k hk2 b h1 e => by have := hF b h1; have := hk k hk2; omega
theorem DFL.below {n : Nat} (hF : BF F n) (hk : NxK [] n K) : DFL F K := fun k hk2 b h1 e => by
  have := hF b h1
  rcases hk k hk2 with e2 | e2 | e2
  · omega
  · cases e2
  · omega
theorem DFL.sub {G : Nat → Prop} (d : DFL F K) (h : ∀ b, G b → F b) : DFL G K := fun k hk b hb => d k hk b (h b hb)
end
/-! ### keys that are texts -/
section
open Go.MapKept
variable {P : Program} {w0 : World} {n : Nat} {l : FL} {H : Heap} {o : Oper} {κ β : Type} [DecidableEq κ] {fk : κ → Value} {fv : β → Value} {b : Nat} {m : List (κ × β)} {d : TypeDesc}
theorem Z.delS {t u kt et : TypeId} {x i : Operand} {k : κ} (h : Mp H fk fv b m) (hfk : KeyFn d fk) (ho : o.op = .call { callee := .builtin .delete, args := #[x, i], argTypes := #[t, u] }) (hm : ∀ w, (underlying t).run P w = .ok (.map kt et) w) (hk : P.underlying kt = some d)
    (hx : opv l x = some (.map (some b))) (hi : opv l i = some (fk k)) : Z P w0 n l H o (fun r H' => r = .tuple #[] ∧ Mp H' fk fv b (mdel m k) ∧ Mo (fun c => c = b) H H') := by
  intro ac w hf ha
  obtain ⟨r, es, clock, hv, h2, h3, h4, h5⟩ := h.mo.ex
  obtain rfl := h2
  have h3' : w.heap[r]? = some (.map es clock) := by rw [ha.heap]; exact h3
  have hlt := (Array.getElem?_eq_some_iff.1 h3).1
  have hget : ∀ ob, (H.setIfInBounds r ob)[r]? = some ob := fun ob => by simp [hlt]
  rcases find_entries (k := k) hfk es.toList m 0 h5 with ⟨q1, q2, q3⟩ | ⟨j, e', b', q1, q2, q3, q4, q5⟩
  · refine ⟨_, H.setIfInBounds r (.map es clock), { w with heap := H.setIfInBounds r (.map es clock) }, ?_, ha.set, rfl, ⟨⟨r, _, _, rfl, rfl, hget _, h4, ?_⟩⟩, mo_set _⟩
    · simp [execOp, ho, hf.eval hx, hf.eval hi, resolve, invoke, builtin, Builtin.delete_, hm, MapKept.run_getObj_map h3', MapKept.run_checkKey hk (hfk.key k), MapKept.run_findKey hk q2, MapKept.run_setObj_map _ h3', ha.heap]
    · rw [h5]
      congr 1
      unfold mdel
      exact (List.filter_eq_self.2 (fun p hp => by simpa using mget_none q1 p hp)).symm
  · have hj : es[j]? = some e' := by simpa using q3
    refine ⟨_, H.setIfInBounds r (.map (es.eraseIdxIfInBounds j) clock), { w with heap := H.setIfInBounds r (.map (es.eraseIdxIfInBounds j) clock) }, ?_, ha.set, rfl, ⟨⟨r, _, _, rfl, rfl, hget _, stamped_erase h4 _, ?_⟩⟩, mo_set _⟩
    · simp [execOp, ho, hf.eval hx, hf.eval hi, resolve, invoke, builtin, Builtin.delete_, hm, MapKept.run_getObj_map h3', MapKept.run_checkKey hk (hfk.key k), MapKept.run_findKey hk q2, MapKept.run_setObj_map _ h3', ha.heap]
    · have hjl : j < es.size := (Array.getElem?_eq_some_iff.1 hj).1
      rw [Array.eraseIdxIfInBounds, dif_pos hjl, Array.toList_eraseIdx]
      exact erase_entries hfk.inj es.toList m j e' h5 h4.2.2 q3 q4
end
end Go.Proofs.YtdliddjkacbggaaGreatDoor.E
