/-
  Bytes taken to lines; how alike two texts are.
-/
import Derived.Test.YtclhnkmkejijjaaRows
import Derived.Test.YtclhnkmkejijjaaMp
import Derived.Test.YtclhnkmkejijjaaWord
import Derived.Test.YtclhnkmkejijjaaClo
import Derived.Test.YtclhnkmkejijjaaExt
import Derived.Test.YtclhnkmkejijjaaOw
import Derived.Lib.Bytealg
namespace Go.Proofs.Ytclhnkmkejijjaa.RenA
open Go.Proofs.Ytclhnkmkejijjaa.E Go.RowKit
set_option maxRecDepth 20000
set_option linter.unusedVariables false
set_option linter.unusedSimpArgs false
set_option linter.unusedSectionVars false
set_option maxRecDepth 100000 in
theorem inf41 : Inf Try.prog 41 9 1 16 := ⟨Try.underlying41, _, _, rfl, rfl, rfl, rfl, rfl⟩
set_option maxRecDepth 100000 in
theorem inf43 : Inf Try.prog 43 4 1 1 := ⟨Try.underlying43, _, _, rfl, rfl, rfl, rfl, rfl⟩

def splitL : List UInt8 → List UInt8 → List (List UInt8)
  | cur, [] => if cur = [] then [] else [cur]
  | cur, c :: r => if c = 10 then (cur ++ [c]) :: splitL [] r else splitL (cur ++ [c]) r
theorem splitL_flat : ∀ (b cur : List UInt8), (splitL cur b).flatten = cur ++ b
  | [], cur => by rw [splitL]; split <;> simp [*]
  | c :: r, cur => by
    rw [splitL]
    split
    · rw [List.flatten_cons, splitL_flat r []]; simp
    · rw [splitL_flat r]; simp
theorem splitL_none : ∀ (b cur : List UInt8), Lib.indexByte b 10 = -1 → splitL cur b = if cur ++ b = [] then [] else [cur ++ b]
  | [], cur, _ => by simp [splitL]
  | c :: r, cur, h => by
    rw [Lib.indexByte] at h
    have hc : ¬ c = 10 := by intro e; subst e; simp at h
    rw [splitL, if_neg hc]
    rw [if_neg (by simpa using hc)] at h
    have h2 : Lib.indexByte r 10 = -1 := by
      have := Lib.indexByte_ge r 10
      split at h
      · rename_i h1; simpa using h1
      · omega
    rw [splitL_none r _ h2]; simp
theorem splitL_some : ∀ (b cur : List UInt8) (i : Nat), Lib.indexByte b 10 = i → i < b.length ∧ splitL cur b = (cur ++ b.take (i + 1)) :: splitL [] (b.drop (i + 1))
  | [], cur, i, h => by rw [Lib.indexByte] at h; omega
  | c :: r, cur, i, h => by
    rw [Lib.indexByte] at h
    by_cases hc : c = 10
    · subst hc
      simp at h
      obtain rfl : i = 0 := by omega
      simp [splitL]
    · rw [if_neg (by simpa using hc)] at h
      have hge := Lib.indexByte_ge r 10
      split at h
      · omega
      · rename_i h1
        have h1' : Lib.indexByte r 10 ≠ -1 := by simpa using h1
        obtain ⟨j, hj⟩ : ∃ j : Nat, Lib.indexByte r 10 = j := ⟨(Lib.indexByte r 10).toNat, by omega⟩
        obtain rfl : i = j + 1 := by omega
        obtain ⟨g1, g2⟩ := splitL_some r (cur ++ [c]) j hj
        rw [splitL, if_neg hc]
        exact ⟨by simp; omega, by rw [g2]; simp⟩
theorem splitL_len : ∀ (b cur : List UInt8), (splitL cur b).length ≤ cur.length + b.length
  | [], cur => by rw [splitL]; cases cur <;> simp
  | c :: r, cur => by
    rw [splitL]
    split
    · have := splitL_len r []; simp at this ⊢; omega
    · have := splitL_len r (cur ++ [c]); simp at this ⊢; omega
theorem take_snoc {α : Type} (b : List α) (f i : Nat) (hf : f ≤ i) (hi : i < b.length) : (b.take (i + 1)).drop f = (b.take i).drop f ++ [b[i]] := by
  rw [List.take_succ_eq_append_getElem hi, List.drop_append_of_le_length (by simp; omega)]
theorem indexByte_ct (v : Value) (b : List UInt8) (c : UInt8) (w0 : World) (H0 : Heap)
    (hv : RdT H0 fB 1 v b) :
    Ct Try.prog w0 41 #[v, .int .u8 c.toNat] H0 (fun r H2 => r = .int .i64 (Lib.indexByte b c) ∧ H2 = H0) := by
  refine Ct.enter (args := [v, .int .u8 c.toNat]) Try.func41 rfl rfl rfl ?_
  intro Q0 hret
  refine CW.seq (fun K1 hK1 hE1 => ?_)
  refine CW.region ?_
  refine LR.v (Y.assign rfl rfl) (Wd.u rfl) rfl rfl ?_
  refine LR.nil ?_
  refine hK1 _ _ ?_
  refine CW.seq (fun K2 hK2 hE2 => ?_)
  refine CW.region ?_
  refine LR.v (Y.move rfl rfl) (Wd.u rfl) rfl rfl ?_
  refine LR.v (Y.move rfl rfl) (Wd.u rfl) rfl rfl ?_
  refine LR.v (Y.indexByte hv rfl Try.func52 (by kernel_rfl) (by kernel_rfl) (by kernel_rfl) (by kernel_rfl) (rfl)) (Wd.u rfl) rfl rfl ?_
  refine LR.v (Y.assign rfl rfl) (Wd.u rfl) rfl rfl ?_
  refine LR.nil ?_
  refine hK2 _ _ ?_
  refine CW.ret (hret .ret (.inr rfl) _ _ _ (res1 rfl rfl) ?_)
  exact ⟨rfl, rfl⟩

theorem split_ct (v : Value) (b : List UInt8) (w0 : World) (H0 : Heap)
    (hv : RdT H0 fB 1 v b) (hl : b.length ≤ 1048576) :
    Ct Try.prog w0 23 #[v] H0 (fun r H2 => Own (fun b => H0.size ≤ b) 9 H2 fS 1 r (splitL [] b) ∧ Nw H0 H2) := by
  refine Ct.enter (args := [v]) Try.func23 rfl rfl rfl ?_
  intro Q0 hret
  replace hv := hv.lt
  refine CW.seq (fun K1 hK1 hE1 => ?_)
  refine CW.region ?_
  refine LR.v (Y.assign rfl rfl) (Wd.u rfl) rfl rfl ?_
  refine LR.nil ?_
  refine hK1 _ _ ?_
  refine CW.seq (fun K2 hK2 hE2 => ?_)
  refine CW.region ?_
  refine LR.v (Y.assign rfl rfl) (Wd.u rfl) rfl rfl ?_
  refine LR.nil ?_
  refine hK2 _ _ ?_
  refine CW.seq (fun K3 hK3 hE3 => ?_)
  refine CW.block (fun K4 hK4 hX4 hE4 => ?_)
  refine CW.loop (fun (s_ : (Value) × (List UInt8) × (Value) × (List (List UInt8))) => match s_ with | (v, r, vo, out) => [(0, v), (3, vo)])
    (fun (s_ : (Value) × (List UInt8) × (Value) × (List (List UInt8))) (H : Heap) => match s_ with | (v, r, vo, out) => Nw H0 H ∧ Rd (fun b => b < H0.size) H fB 1 v r ∧ Own (fun b => H0.size ≤ b) 9 H fS 1 vo out ∧ out ++ splitL [] r = splitL [] b ∧ r.length ≤ b.length ∧ out.length + r.length ≤ b.length)
    (fun (s_ : (Value) × (List UInt8) × (Value) × (List (List UInt8))) => match s_ with | (v, r, vo, out) => r.length) (v, b, .slice none 0 0, []) ⟨rfl, rfl, trivial⟩ ?_ ?_
  ·
    exact ⟨Nw.refl _, hv, Own.nil fS_len fS_one, rfl, by omega, by simp⟩
  rintro ⟨v, r, vo, out⟩ H1 hI1 K5 hN5 hE5
  obtain ⟨hs, hr, ho, hsp, hrl, hol⟩ := hI1
  have hzz := hs.size
  refine CW.seq (fun K6 hK6 hE6 => ?_)
  refine CW.seq (fun K7 hK7 hE7 => ?_)
  refine CW.region ?_
  refine LR.v (Y.move rfl rfl) (Wd.u rfl) rfl rfl ?_
  refine LR.v (Y.len hr rfl Try.runUnderlying22 rfl) (Wd.u rfl) rfl rfl ?_
  refine LR.v (Y.gtr rfl rfl rfl) (Wd.u rfl) rfl rfl ?_
  refine LR.nil ?_
  refine hK7 _ _ ?_
  refine CW.condp rfl (fun c7 => ?_) (fun c7 => ?_)
  ·
    refine CW.skip ?_
    refine hK6 _ _ ?_
    refine CW.block (fun K8 hK8 hX8 hE8 => ?_)
    refine CW.seq (fun K9 hK9 hE9 => ?_)
    refine CW.region ?_
    refine LR.v (Y.move rfl rfl) (Wd.u rfl) rfl rfl ?_
    -- call bytes.IndexByte
    refine LR.call rfl Try.call41 rfl (Wd.u rfl) rfl rfl (indexByte_ct _ r 10 w0 H1 hr.any) (fun v9 H9 r9 => ?_)
    obtain ⟨rfl, rfl⟩ := r9
    have hge := Lib.indexByte_ge r 10
    obtain ⟨n, hn, hnl, hn1, hsn⟩ : ∃ n : Nat, (if Lib.indexByte r 10 = -1 then (r.length : Int) else Lib.indexByte r 10 + 1) = n ∧ n ≤ r.length ∧ 1 ≤ n ∧ splitL [] r = r.take n :: splitL [] (r.drop n) := by
      by_cases hx : Lib.indexByte r 10 = -1
      · refine ⟨r.length, by rw [if_pos hx], by omega, by omega, ?_⟩
        rw [splitL_none r [] hx, if_neg (by intro e; simp at e; subst e; simp at c7)]
        simp [splitL]
      · obtain ⟨i, hi⟩ : ∃ i : Nat, Lib.indexByte r 10 = i := ⟨(Lib.indexByte r 10).toNat, by omega⟩
        obtain ⟨g1, g2⟩ := splitL_some r [] i hi
        exact ⟨i + 1, by rw [if_neg hx]; omega, by omega, by omega, by simpa using g2⟩
    refine LR.v (Y.addi rfl rfl rfl (by have := hnl; split at hn <;> omega)) (Wd.u rfl) rfl rfl ?_
    refine LR.v (Y.assign rfl rfl) (Wd.u rfl) rfl rfl ?_
    refine LR.nil ?_
    refine hK9 _ _ ?_
    refine CW.cut (fun (_ : Unit) => [(0, v), (3, vo), (4, .int .i64 n)])
      (fun (_ : Unit) (H : Heap) => H = H9) (fun K10 hK10 hE10 => ?_) ?_
    ·
      refine CW.seq (fun K11 hK11 hE11 => ?_)
      refine CW.region ?_
      refine LR.v (Y.move rfl rfl) (Wd.u rfl) rfl rfl ?_
      refine LR.v (Y.eql rfl rfl rfl) (Wd.u rfl) rfl rfl ?_
      refine LR.nil ?_
      refine hK11 _ _ ?_
      refine CW.condp rfl (fun c12 => ?_) (fun c12 => ?_)
      ·
        refine CW.region ?_
        refine LR.v (Y.move rfl rfl) (Wd.u rfl) rfl rfl ?_
        refine LR.v (Y.len hr rfl Try.runUnderlying22 rfl) (Wd.u rfl) rfl rfl ?_
        refine LR.v (Y.assign rfl rfl) (Wd.u rfl) rfl rfl ?_
        refine LR.nil ?_
        refine QN.sub (hK10 () _ ?_) ⟨rfl, rfl, (iv (by first | (rw [if_pos (by omega)] at hn; omega) | (rw [if_neg (by omega)] at hn; omega))), trivial⟩
        rfl
      ·
        refine CW.skip ?_
        refine QN.sub (hK10 () _ ?_) ⟨rfl, rfl, (iv (by first | (rw [if_pos (by omega)] at hn; omega) | (rw [if_neg (by omega)] at hn; omega))), trivial⟩
        rfl
    ·
      intro _ Hcutc12 hIcutc12
      obtain rfl := hIcutc12
      refine CW.seq (fun K12 hK12 hE12 => ?_)
      refine CW.region ?_
      refine LR.v (Y.move rfl rfl) (Wd.u rfl) rfl rfl ?_
      refine LR.v (Y.move rfl rfl) (Wd.u rfl) rfl rfl ?_
      refine LR.v (Y.move rfl rfl) (Wd.u rfl) rfl rfl ?_
      refine LR.e (g := fun v => v) (Y.slice hr (0) (n) rfl Try.runUnderlying22 Try.sizeOf5 rfl (.inl ⟨rfl, rfl⟩) (.inr ⟨_, _, _, rfl, rfl, by first | rfl | omega⟩) (by omega) (by omega)) (Wd.u rfl) rfl rfl (fun v18 rd18 => ?_)
      refine LR.v (Y.bstr rd18 rfl Try.underlying22 Try.underlying9 Try.underlying5 rfl) (Wd.u rfl) rfl rfl ?_
      refine LR.z (Z.lit _ ([(r.take n).drop 0]) rfl inf41 rfl rfl rfl (by decide) (by decide) fS_len fS_one (rfl)) (Wd.u rfl) rfl rfl (fun v20 H20 r20 => ?_)
      obtain ⟨ho20, hs20, -⟩ := r20
      replace hr := hr.nw hs20
      replace ho := ho.nw hs20
      replace hs := hs.tr hs20
      have hz20 := hs20.size
      refine LR.z (Z.append ho ho20.rd rfl inf41 rfl rfl (by simp; omega) (by simp; omega)) (Wd.u rfl) rfl rfl (fun v21 H21 r21 => ?_)
      obtain ⟨ho, hs21⟩ := r21
      replace hr := hr.up hs21 (fun b _ h1 h2 => by omega)
      replace hs := hs.trans hs21 (fun _ _ e => e) (fun b hb e => by omega)
      refine LR.v (Y.assign rfl rfl) (Wd.u rfl) rfl rfl ?_
      refine LR.nil ?_
      refine hK12 _ _ ?_
      refine CW.region ?_
      refine LR.v (Y.move rfl rfl) (Wd.u rfl) rfl rfl ?_
      refine LR.v (Y.move rfl rfl) (Wd.u rfl) rfl rfl ?_
      refine LR.e (g := fun v => v) (Y.slice hr (n) (_) rfl Try.runUnderlying22 Try.sizeOf5 rfl (.inr ⟨_, _, _, rfl, rfl, by first | rfl | omega⟩) (.inl ⟨rfl, rfl⟩) (by omega) (by omega)) (Wd.u rfl) rfl rfl (fun v24 rd24 => ?_)
      refine LR.v (Y.assign rfl rfl) (Wd.u rfl) rfl rfl ?_
      refine LR.nil ?_
      refine hK8 _ _ ?_
      refine QN.sub (hN5 (v24, r.drop n, v21, out ++ [(r.take n).drop 0]) _ ?_ ?_) ⟨rfl, rfl, trivial⟩
      · exact ⟨hs, by simpa using rd24, ho.imp (fun b _ e => by omega), by rw [← hsp, hsn]; simp, by simp; omega, by simp; omega⟩
      · show (r.drop n).length < r.length; rw [List.length_drop]; omega
  ·
    have hrn : r = [] := List.eq_nil_of_length_eq_zero (by omega)
    subst hrn
    simp only [splitL, if_true, List.append_nil] at hsp
    subst hsp
    refine CW.exit (hE6 (.exit 0) nofun _ _ (hE5 (.exit 0) nofun _ _ (hX4 _ _ ?_)))
    refine hK3 _ _ ?_
    refine CW.seq (fun K13 hK13 hE13 => ?_)
    refine CW.region ?_
    refine LR.v (Y.move rfl rfl) (Wd.u rfl) rfl rfl ?_
    refine LR.v (Y.assign rfl rfl) (Wd.u rfl) rfl rfl ?_
    refine LR.nil ?_
    refine hK13 _ _ ?_
    refine CW.ret (hret .ret (.inr rfl) _ _ _ (res1 rfl rfl) ?_)
    exact ⟨ho, hs⟩

theorem rsplit_ct (v : Value) (b : List UInt8) (w0 : World) (H0 : Heap)
    (hv : RdT H0 fB 1 v b) (hl : b.length ≤ 1048576) :
    Ct Try.prog w0 24 #[v] H0 (fun r H2 => Own (fun b => H0.size ≤ b) 9 H2 fS 1 r (splitL [] b) ∧ Nw H0 H2) := by
  refine Ct.enter (args := [v]) Try.func24 rfl rfl rfl ?_
  intro Q0 hret
  replace hv := hv.lt
  refine CW.seq (fun K1 hK1 hE1 => ?_)
  refine CW.region ?_
  refine LR.v (Y.assign rfl rfl) (Wd.u rfl) rfl rfl ?_
  refine LR.nil ?_
  refine hK1 _ _ ?_
  refine CW.seq (fun K2 hK2 hE2 => ?_)
  refine CW.region ?_
  refine LR.v (Y.assign rfl rfl) (Wd.u rfl) rfl rfl ?_
  refine LR.nil ?_
  refine hK2 _ _ ?_
  refine CW.seq (fun K3 hK3 hE3 => ?_)
  refine CW.region ?_
  refine LR.v (Y.assign rfl rfl) (Wd.u rfl) rfl rfl ?_
  refine LR.nil ?_
  refine hK3 _ _ ?_
  refine CW.seq (fun K4 hK4 hE4 => ?_)
  refine CW.seq (fun K5 hK5 hE5 => ?_)
  refine CW.region ?_
  refine LR.v (Y.assign rfl rfl) (Wd.u rfl) rfl rfl ?_
  refine LR.nil ?_
  refine hK5 _ _ ?_
  refine CW.block (fun K6 hK6 hX6 hE6 => ?_)
  refine CW.loop (fun (s_ : (Nat) × (Nat) × (Value) × (List (List UInt8))) => match s_ with | (i, f, vo, out) => [(0, v), (3, vo), (4, .int .i64 f), (5, .int .i64 i)])
    (fun (s_ : (Nat) × (Nat) × (Value) × (List (List UInt8))) (H : Heap) => match s_ with | (i, f, vo, out) => Nw H0 H ∧ Own (fun b => H0.size ≤ b) 9 H fS 1 vo out ∧ f ≤ i ∧ i ≤ b.length ∧ out.length ≤ i ∧ out ++ splitL ((b.take i).drop f) (b.drop i) = splitL [] b)
    (fun (s_ : (Nat) × (Nat) × (Value) × (List (List UInt8))) => match s_ with | (i, f, vo, out) => b.length - i) (0, 0, .slice none 0 0, []) ⟨rfl, rfl, rfl, rfl, trivial⟩ ?_ ?_
  ·
    exact ⟨Nw.refl _, Own.nil fS_len fS_one, by omega, by omega, by simp, by simp⟩
  rintro ⟨i, f, vo, out⟩ H1 hI1 K7 hN7 hE7
  obtain ⟨hs, ho, hf, hi, hol, hsp⟩ := hI1
  have hzz := hs.size
  have hv2 := hv.nw hs
  refine CW.seq (fun K8 hK8 hE8 => ?_)
  refine CW.seq (fun K9 hK9 hE9 => ?_)
  refine CW.region ?_
  refine LR.v (Y.move rfl rfl) (Wd.u rfl) rfl rfl ?_
  refine LR.v (Y.move rfl rfl) (Wd.u rfl) rfl rfl ?_
  refine LR.v (Y.len hv2 rfl Try.runUnderlying22 rfl) (Wd.u rfl) rfl rfl ?_
  refine LR.v (Y.lss rfl rfl rfl) (Wd.u rfl) rfl rfl ?_
  refine LR.nil ?_
  refine hK9 _ _ ?_
  refine CW.condp rfl (fun c9 => ?_) (fun c9 => ?_)
  ·
    rw [List.drop_eq_getElem_cons (show i < b.length by omega), splitL] at hsp
    refine CW.skip ?_
    refine hK8 _ _ ?_
    refine CW.seq (fun K10 hK10 hE10 => ?_)
    refine CW.block (fun K11 hK11 hX11 hE11 => ?_)
    refine CW.seq (fun K12 hK12 hE12 => ?_)
    refine CW.region ?_
    refine LR.v (Y.move rfl rfl) (Wd.u rfl) rfl rfl ?_
    refine LR.v (Y.move rfl rfl) (Wd.u rfl) rfl rfl ?_
    refine LR.e (g := fun ad => .pointer (some ad)) (Y.indexAddr hv2 (i) rfl Try.runUnderlying22 Try.sizeOf5 rfl rfl (by first | rfl | omega) (by first | omega | (simp; omega) | (simp; done))) (Wd.u rfl) rfl rfl (fun ad14 pt14 => ?_)
    refine LR.v (Y.load1 pt14 rfl Try.isAgg5 rfl) (Wd.u rfl) rfl rfl ?_
    refine LR.v (Y.eql rfl rfl rfl) (Wd.u rfl) rfl rfl ?_
    refine LR.nil ?_
    refine hK12 _ _ ?_
    refine CW.condp rfl (fun c16 => ?_) (fun c16 => ?_)
    ·
      have hb10 : b[i] = 10 := by apply UInt8.toNat_inj.1; have := c16; simp at this ⊢; omega
      rw [if_pos hb10, ← take_snoc b f i hf (by omega)] at hsp
      refine CW.seq (fun K13 hK13 hE13 => ?_)
      refine CW.region ?_
      refine LR.v (Y.move rfl rfl) (Wd.u rfl) rfl rfl ?_
      refine LR.v (Y.move rfl rfl) (Wd.u rfl) rfl rfl ?_
      refine LR.v (Y.move rfl rfl) (Wd.u rfl) rfl rfl ?_
      refine LR.v (Y.move rfl rfl) (Wd.u rfl) rfl rfl ?_
      refine LR.v (Y.addi rfl rfl rfl (by omega)) (Wd.u rfl) rfl rfl ?_
      refine LR.e (g := fun v => v) (Y.slice hv2 (f) (i + 1) rfl Try.runUnderlying22 Try.sizeOf5 rfl (.inr ⟨_, _, _, rfl, rfl, by first | rfl | omega⟩) (.inr ⟨_, _, _, rfl, rfl, by first | rfl | omega⟩) (by omega) (by omega)) (Wd.u rfl) rfl rfl (fun v22 rd22 => ?_)
      refine LR.v (Y.bstr rd22 rfl Try.underlying22 Try.underlying9 Try.underlying5 rfl) (Wd.u rfl) rfl rfl ?_
      refine LR.z (Z.lit _ ([(b.take (i + 1)).drop f]) rfl inf41 rfl rfl rfl (by decide) (by decide) fS_len fS_one (rfl)) (Wd.u rfl) rfl rfl (fun v24 H24 r24 => ?_)
      obtain ⟨hl24, hs24, -⟩ := r24
      replace hv2 := hv2.nw hs24
      replace ho := ho.nw hs24
      replace hs := hs.tr hs24
      have hz24 := hs24.size
      refine LR.z (Z.append ho hl24.rd rfl inf41 rfl rfl (by simp; omega) (by simp; omega)) (Wd.u rfl) rfl rfl (fun v25 H25 r25 => ?_)
      obtain ⟨ho, hs25⟩ := r25
      replace hv2 := hv2.up hs25 (fun b _ h1 h2 => by omega)
      replace hs := hs.trans hs25 (fun _ _ e => e) (fun b hb e => by omega)
      have hz25 := hs25.size
      refine LR.v (Y.assign rfl rfl) (Wd.u rfl) rfl rfl ?_
      refine LR.nil ?_
      refine hK13 _ _ ?_
      refine CW.region ?_
      refine LR.v (Y.move rfl rfl) (Wd.u rfl) rfl rfl ?_
      refine LR.v (Y.addi rfl rfl rfl (by omega)) (Wd.u rfl) rfl rfl ?_
      refine LR.v (Y.assign rfl rfl) (Wd.u rfl) rfl rfl ?_
      refine LR.nil ?_
      refine hK11 _ _ ?_
      refine hK10 _ _ ?_
      refine CW.region ?_
      refine LR.v (Y.move rfl rfl) (Wd.u rfl) rfl rfl ?_
      refine LR.v (Y.addi rfl rfl rfl (by omega)) (Wd.u rfl) rfl rfl ?_
      refine LR.v (Y.assign rfl rfl) (Wd.u rfl) rfl rfl ?_
      refine LR.nil ?_
      refine QN.sub (hN7 (i + 1, i + 1, v25, out ++ [(b.take (i + 1)).drop f]) _ ?_ ?_) ⟨rfl, rfl, (iv (by omega)), (iv (by omega)), trivial⟩
      · exact ⟨hs, ho.imp (fun b _ e => by omega), by omega, by omega, by simp; omega, by rw [← hsp]; simp⟩
      · show b.length - (i + 1) < b.length - i; omega
    ·
      have hb10 : ¬ b[i] = 10 := by intro e; apply c16; rw [e]; rfl
      rw [if_neg hb10, ← take_snoc b f i hf (by omega)] at hsp
      refine CW.skip ?_
      refine hK11 _ _ ?_
      refine hK10 _ _ ?_
      refine CW.region ?_
      refine LR.v (Y.move rfl rfl) (Wd.u rfl) rfl rfl ?_
      refine LR.v (Y.addi rfl rfl rfl (by omega)) (Wd.u rfl) rfl rfl ?_
      refine LR.v (Y.assign rfl rfl) (Wd.u rfl) rfl rfl ?_
      refine LR.nil ?_
      refine QN.sub (hN7 (i + 1, f, vo, out) _ ?_ ?_) ⟨rfl, rfl, (iv (by omega)), (iv (by omega)), trivial⟩
      · exact ⟨hs, ho, by omega, by omega, by omega, hsp⟩
      · show b.length - (i + 1) < b.length - i; omega
  ·
    rw [List.take_of_length_le (show b.length ≤ i by omega), List.drop_of_length_le (show b.length ≤ i by omega), splitL] at hsp
    refine CW.exit (hE8 (.exit 0) nofun _ _ (hE7 (.exit 0) nofun _ _ (hX6 _ _ ?_)))
    refine hK4 _ _ ?_
    refine CW.seq (fun K14 hK14 hE14 => ?_)
    refine CW.seq (fun K15 hK15 hE15 => ?_)
    refine CW.region ?_
    refine LR.v (Y.move rfl rfl) (Wd.u rfl) rfl rfl ?_
    refine LR.v (Y.move rfl rfl) (Wd.u rfl) rfl rfl ?_
    refine LR.v (Y.len hv2 rfl Try.runUnderlying22 rfl) (Wd.u rfl) rfl rfl ?_
    refine LR.v (Y.lss rfl rfl rfl) (Wd.u rfl) rfl rfl ?_
    refine LR.nil ?_
    refine hK15 _ _ ?_
    refine CW.condp rfl (fun c31 => ?_) (fun c31 => ?_)
    ·
      rw [if_neg (by intro e; rw [List.drop_eq_nil_iff] at e; omega)] at hsp
      refine CW.region ?_
      refine LR.v (Y.move rfl rfl) (Wd.u rfl) rfl rfl ?_
      refine LR.v (Y.move rfl rfl) (Wd.u rfl) rfl rfl ?_
      refine LR.v (Y.move rfl rfl) (Wd.u rfl) rfl rfl ?_
      refine LR.e (g := fun v => v) (Y.slice hv2 (f) (_) rfl Try.runUnderlying22 Try.sizeOf5 rfl (.inr ⟨_, _, _, rfl, rfl, by first | rfl | omega⟩) (.inl ⟨rfl, rfl⟩) (by omega) (by omega)) (Wd.u rfl) rfl rfl (fun v35 rd35 => ?_)
      refine LR.v (Y.bstr rd35 rfl Try.underlying22 Try.underlying9 Try.underlying5 rfl) (Wd.u rfl) rfl rfl ?_
      refine LR.z (Z.lit _ ([(b.take b.length).drop f]) rfl inf41 rfl rfl rfl (by decide) (by decide) fS_len fS_one (rfl)) (Wd.u rfl) rfl rfl (fun v37 H37 r37 => ?_)
      obtain ⟨hl37, hs37, -⟩ := r37
      replace hv2 := hv2.nw hs37
      replace ho := ho.nw hs37
      replace hs := hs.tr hs37
      have hz37 := hs37.size
      refine LR.z (Z.append ho hl37.rd rfl inf41 rfl rfl (by simp; omega) (by simp; omega)) (Wd.u rfl) rfl rfl (fun v38 H38 r38 => ?_)
      obtain ⟨ho, hs38⟩ := r38
      replace hv2 := hv2.up hs38 (fun b _ h1 h2 => by omega)
      replace hs := hs.trans hs38 (fun _ _ e => e) (fun b hb e => by omega)
      have hz38 := hs38.size
      refine LR.v (Y.assign rfl rfl) (Wd.u rfl) rfl rfl ?_
      refine LR.nil ?_
      refine hK14 _ _ ?_
      refine CW.seq (fun K16 hK16 hE16 => ?_)
      refine CW.region ?_
      refine LR.v (Y.move rfl rfl) (Wd.u rfl) rfl rfl ?_
      refine LR.v (Y.assign rfl rfl) (Wd.u rfl) rfl rfl ?_
      refine LR.nil ?_
      refine hK16 _ _ ?_
      refine CW.ret (hret .ret (.inr rfl) _ _ _ (res1 rfl rfl) ?_)
      rw [← hsp]
      rw [List.take_length] at ho
      exact ⟨ho.imp (fun b _ e => by omega), hs⟩
    ·
      rw [if_pos (by rw [List.drop_eq_nil_iff]; omega), List.append_nil] at hsp
      refine CW.skip ?_
      refine hK14 _ _ ?_
      refine CW.seq (fun K17 hK17 hE17 => ?_)
      refine CW.region ?_
      refine LR.v (Y.move rfl rfl) (Wd.u rfl) rfl rfl ?_
      refine LR.v (Y.assign rfl rfl) (Wd.u rfl) rfl rfl ?_
      refine LR.nil ?_
      refine hK17 _ _ ?_
      refine CW.ret (hret .ret (.inr rfl) _ _ _ (res1 rfl rfl) ?_)
      rw [← hsp]
      exact ⟨ho, hs⟩

theorem Ct.ow {P : Program} {w0 : World} {f : FuncId} {args : Array Value} {H0 : Heap} {α : Type} {e : TypeId} {g : α → List Value} {sz : Nat} {L : List α} (h : Ct P w0 f args H0 (fun r H2 => Own (fun b => H0.size ≤ b) e H2 g sz r L ∧ Nw H0 H2)) :
    Ct P w0 f args H0 (fun r H2 => ∃ v, ∃ k, r = v ∧ Ow k e H2 g sz v L ∧ Nx 0 H0.size k ∧ Nw H0 H2) := by
  refine h.mono ?_
  rintro r H2 ⟨h1, h2⟩
  obtain ⟨k, h3, h4⟩ := Ow.of h1
  refine ⟨r, k, rfl, h3, ?_, h2⟩
  rcases h4 with rfl | ⟨g, rfl, h5⟩
  · exact .inl rfl
  · exact .inr (.inr (by omega))
theorem split3 (v : Value) (b : List UInt8) (w0 : World) (H0 : Heap) (hv : RdT H0 fB 1 v b) (hl : b.length ≤ 1048576) : Ct Try.prog w0 23 #[v] H0 (fun r H2 => ∃ v, ∃ k, r = v ∧ Ow k 9 H2 fS 1 v (splitL [] b) ∧ Nx 0 H0.size k ∧ Nw H0 H2) := Ct.ow (split_ct v b w0 H0 hv hl)
theorem rsplit3 (v : Value) (b : List UInt8) (w0 : World) (H0 : Heap) (hv : RdT H0 fB 1 v b) (hl : b.length ≤ 1048576) : Ct Try.prog w0 24 #[v] H0 (fun r H2 => ∃ v, ∃ k, r = v ∧ Ow k 9 H2 fS 1 v (splitL [] b) ∧ Nx 0 H0.size k ∧ Nw H0 H2) := Ct.ow (rsplit_ct v b w0 H0 hv hl)

/-- how many lines of y can be paired with lines of x -/
def pairN {α : Type} [DecidableEq α] : List α → List α → Nat
  | _, [] => 0
  | x, s :: y => if s ∈ x then pairN (x.erase s) y + 1 else pairN x y
section
variable {α : Type} [DecidableEq α]
theorem pairN_cons (s : α) : ∀ (y x : List α), pairN (s :: x) y = if s ∈ y then pairN x (y.erase s) + 1 else pairN x y
  | [], x => by simp [pairN]
  | t :: y, x => by
    by_cases e : t = s
    · subst e; simp [pairN]
    · have e' : s ≠ t := fun h => e h.symm
      have h1 := pairN_cons s y (x.erase t)
      have h2 := pairN_cons s y x
      have e3 : (s :: x).erase t = s :: x.erase t := by simp [List.erase_cons, e']
      have e4 : (t :: y).erase s = t :: y.erase s := by simp [List.erase_cons, e]
      simp only [pairN, List.mem_cons, e, false_or, e', e3, e4]
      by_cases hx : t ∈ x
      · simp only [hx, if_true, h1]
        split <;> rfl
      · simp only [hx, if_false, h2]
theorem pairN_comm : ∀ (x y : List α), pairN x y = pairN y x
  | [], y => by
    have : ∀ y : List α, pairN [] y = 0 := by intro y; induction y with
      | nil => rfl
      | cons a y ih => simp [pairN, ih]
    rw [this]; simp [pairN]
  | s :: x, y => by
    rw [pairN_cons]
    simp only [pairN]
    rw [pairN_comm x (y.erase s), pairN_comm x y]
/-- one taken away; how often one is there -/
def er (r : List α) (x : α) : List α := r.erase x
def cn (r : List α) (x : α) : Nat := r.count x
theorem er_len (r : List α) (x : α) : (er r x).length ≤ r.length := List.length_erase_le
theorem cn_pos {r : List α} {x : α} : 0 < cn r x ↔ x ∈ r := List.count_pos_iff
theorem cn_le (r : List α) (x : α) : cn r x ≤ r.length := List.count_le_length
theorem cn_er (r : List α) (x s : α) (h : x ∈ r) : ((cn (er r x) s : Nat) : Int) = if s = x then (cn r x : Int) - 1 else cn r s := by
  have hp := List.count_pos_iff.2 h
  unfold cn er
  split
  · rename_i e; subst e; rw [List.count_erase_self]; omega
  · rename_i e; rw [List.count_erase_of_ne e]
theorem cn_snoc (r : List α) (x s : α) : ((cn (r ++ [x]) s : Nat) : Int) = if s = x then (cn r x : Int) + 1 else cn r s := by
  unfold cn
  rw [List.count_append, List.count_singleton]
  by_cases e : s = x
  · subst e; simp
  · have : ¬ x = s := fun q => e q.symm
    simp [this, e]
theorem pairN_hit {r ys : List α} {j : Nat} (hj : j < ys.length) (h : ys[j] ∈ r) : pairN r (ys.drop j) = pairN (er r ys[j]) (ys.drop (j + 1)) + 1 := by
  rw [List.drop_eq_getElem_cons hj, pairN, if_pos h]; rfl
theorem pairN_miss {r ys : List α} {j : Nat} (hj : j < ys.length) (h : ¬ ys[j] ∈ r) : pairN r (ys.drop j) = pairN r (ys.drop (j + 1)) := by
  rw [List.drop_eq_getElem_cons hj, pairN, if_neg h]
theorem pairN_end {r ys : List α} {j : Nat} (hj : ys.length ≤ j) : pairN r (ys.drop j) = 0 := by rw [List.drop_of_length_le hj]; rfl
end
/-- how alike two texts are -/
def scoreL (a b : List UInt8) (x y : List (List UInt8)) : Nat := if a = b then 100 else 200 * pairN x y / (x.length + y.length)


def scoreB (a b : List UInt8) : Nat := scoreL a b (splitL [] a) (splitL [] b)
theorem splitL_ne {a : List UInt8} : ∀ {cur : List UInt8}, splitL cur a = [] → a = [] ∧ cur = [] := by
  induction a with
  | nil => intro cur h; rw [splitL] at h; split at h <;> simp_all
  | cons c r ih =>
    intro cur h
    rw [splitL] at h
    split at h
    · simp at h
    · have := (ih h).2; simp at this
theorem cnt_up {m : List (List UInt8 × Int)} {xs : List (List UInt8)} {i : Nat} (h : ∀ s, (mget m s).getD 0 = ((cn (xs.take i) s : Nat) : Int)) (hi : i < xs.length) :
    ∀ s, (mget (mput m xs[i] ((mget m xs[i]).getD 0 + 1)) s).getD 0 = ((cn (xs.take (i + 1)) s : Nat) : Int) := by
  intro s
  rw [mget_put, List.take_succ_eq_append_getElem hi, cn_snoc]
  split
  · rw [Option.getD_some, h]
  · rw [h]
theorem cnt_dn {m : List (List UInt8 × Int)} {r : List (List UInt8)} {x : List UInt8} (h : ∀ s, (mget m s).getD 0 = ((cn r s : Nat) : Int)) (hx : x ∈ r) :
    ∀ s, (mget (mput m x ((mget m x).getD 0 - 1)) s).getD 0 = ((cn (er r x) s : Nat) : Int) := by
  intro s
  rw [mget_put, cn_er _ _ _ hx]
  split
  · rw [Option.getD_some, h]
  · rw [h]

theorem bequal_ct (v1 v2 : Value) (a b : List UInt8) (w0 : World) (H0 : Heap)
    (ha : RdT H0 fB 1 v1 a) (hb : RdT H0 fB 1 v2 b) :
    Ct Try.prog w0 22 #[v1, v2] H0 (fun r H2 => r = .bool (decide (a = b)) ∧ Nw H0 H2) := by
  refine Ct.enter (args := [v1, v2]) Try.func22 rfl rfl rfl ?_
  intro Q0 hret
  have hm0 : Nw H0 H0 := Mo.refl _ _
  replace ha := ha.bnd
  have bf_ha := Rd.bf ha
  replace hb := hb.bnd
  have bf_hb := Rd.bf hb
  refine CW.seq (fun K1 hK1 hE1 => ?_)
  refine CW.region ?_
  refine LR.v (Y.assign rfl rfl) (Wd.u rfl) rfl rfl ?_
  refine LR.nil ?_
  refine hK1 _ _ ?_
  refine CW.seq (fun K2 hK2 hE2 => ?_)
  refine CW.region ?_
  refine LR.v (Y.move rfl rfl) (Wd.u rfl) rfl rfl ?_
  refine LR.v (Y.bstr ha rfl Try.underlying22 Try.underlying9 Try.underlying5 rfl) (Wd.u rfl) rfl rfl ?_
  refine LR.v (Y.move rfl rfl) (Wd.u rfl) rfl rfl ?_
  refine LR.v (Y.bstr hb rfl Try.underlying22 Try.underlying9 Try.underlying5 rfl) (Wd.u rfl) rfl rfl ?_
  refine LR.v (Y.seql rfl rfl rfl) (Wd.u rfl) rfl rfl ?_
  refine LR.v (Y.assign rfl rfl) (Wd.u rfl) rfl rfl ?_
  refine LR.nil ?_
  refine hK2 _ _ ?_
  refine CW.ret (hret .ret (.inr rfl) _ _ _ (res1 rfl rfl) ?_)
  exact ⟨rfl, hm0⟩

theorem pscore_ct (v1 v2 : Value) (a b : List UInt8) (w0 : World) (H0 : Heap)
    (ha : RdT H0 fB 1 v1 a) (hb : RdT H0 fB 1 v2 b) (hal : a.length ≤ 1048576) (hbl : b.length ≤ 1048576) :
    Ct Try.prog w0 11 #[v1, v2] H0 (fun r H2 => r = .int .i64 (scoreB a b : Nat) ∧ Nw H0 H2) := by
  refine Ct.enter (args := [v1, v2]) Try.func11 rfl rfl rfl ?_
  intro Q0 hret
  have hm0 : Nw H0 H0 := Mo.refl _ _
  replace ha := ha.bnd
  have bf_ha := Rd.bf ha
  replace hb := hb.bnd
  have bf_hb := Rd.bf hb
  refine CW.seq (fun K1 hK1 hE1 => ?_)
  refine CW.region ?_
  refine LR.v (Y.assign rfl rfl) (Wd.u rfl) rfl rfl ?_
  refine LR.nil ?_
  refine hK1 _ _ ?_
  refine CW.seq (fun K2 hK2 hE2 => ?_)
  refine CW.seq (fun K3 hK3 hE3 => ?_)
  refine CW.region ?_
  refine LR.v (Y.move rfl rfl) (Wd.u rfl) rfl rfl ?_
  refine LR.v (Y.move rfl rfl) (Wd.u rfl) rfl rfl ?_
  -- call bytes.Equal
  refine LR.call rfl Try.call22 rfl (Wd.u rfl) rfl rfl (bequal_ct v1 v2 a b w0 _ ha.any hb.any) (fun v15 H15 r15 => ?_)
  obtain ⟨rfl, hs15⟩ := r15
  replace ha := ha.nw hs15
  replace hb := hb.nw hs15
  replace hm0 := hm0.tr hs15
  have hz1 := hs15.size
  refine LR.nil ?_
  refine hK3 _ _ ?_
  refine CW.condp rfl (fun c15 => ?_) (fun c15 => ?_)
  ·
    refine CW.seq (fun K4 hK4 hE4 => ?_)
    refine CW.region ?_
    refine LR.v (Y.assign rfl rfl) (Wd.u rfl) rfl rfl ?_
    refine LR.nil ?_
    refine hK4 _ _ ?_
    refine CW.ret (hE2 .ret nofun _ _ (hret .ret (.inr rfl) _ _ _ (res1 rfl rfl) ?_))
    exact ⟨by rw [scoreB, scoreL, if_pos (by assumption)]; rfl, hm0⟩
  ·
    refine CW.skip ?_
    refine hK2 _ _ ?_
    refine CW.seq (fun K5 hK5 hE5 => ?_)
    refine CW.region ?_
    refine LR.v (Y.move rfl rfl) (Wd.u rfl) rfl rfl ?_
    -- call selvage/lines.Split
    refine LR.call rfl Try.call23 rfl (Wd.u rfl) rfl rfl (split3 _ a w0 _ ha.any hal) (fun v17 H17 r17 => ?_)
    obtain ⟨v17, kx, rfl, ox, hkx, hs17⟩ := r17
    have df1 := DF.app (DF.z) (bf_ha.mono hm0.size) hkx
    have df2 := DF.app (DF.z) (bf_hb.mono hm0.size) hkx
    have nx3 : Nx 0 H0.size kx := Nx.tr (Nx.refl 0 _) hkx hm0.size
    replace ha := ha.nw hs17
    replace hb := hb.nw hs17
    replace hm0 := hm0.tr hs17
    have hz2 := hs17.size
    have hle_ox := ox.le
    obtain ⟨xs, hxs⟩ : ∃ l, splitL [] a = l := ⟨_, rfl⟩
    have hxl := splitL_len a []
    rw [hxs] at ox hxl
    have hxl2 := ox.len
    simp only [List.length_nil] at hxl
    refine LR.v (Y.move rfl rfl) (Wd.u rfl) rfl rfl ?_
    -- call selvage/lines.Split
    refine LR.call rfl Try.call23 rfl (Wd.u rfl) rfl rfl (split3 _ b w0 _ hb.any hbl) (fun v19 H19 r19 => ?_)
    obtain ⟨v19, ky, rfl, oy, hky, hs19⟩ := r19
    have df4 := DF.app (DF.z) (bf_ha.mono hm0.size) hky
    have df5 := DF.app (DF.z) (bf_hb.mono hm0.size) hky
    have dj6 : Dj kx ky := Dj.app (Dj.z) ox.le hky
    have nx7 : Nx 0 H0.size ky := Nx.tr (Nx.refl 0 _) hky hm0.size
    replace ha := ha.nw hs19
    replace hb := hb.nw hs19
    replace ox := ox.nw hs19
    replace hm0 := hm0.tr hs19
    have hz3 := hs19.size
    have hle_oy := oy.le
    obtain ⟨ys, hys⟩ : ∃ l, splitL [] b = l := ⟨_, rfl⟩
    have hyl := splitL_len b []
    rw [hys] at oy hyl
    have hyl2 := oy.len
    simp only [List.length_nil] at hyl
    refine LR.v (Y.assign rfl rfl) (Wd.u rfl) rfl rfl ?_
    refine LR.v (Y.assign rfl rfl) (Wd.u rfl) rfl rfl ?_
    refine LR.nil ?_
    refine hK5 _ _ ?_
    refine CW.seq (fun K6 hK6 hE6 => ?_)
    refine CW.region ?_
    refine LR.z (Z.makeMp Str (Value.int .i64) rfl) (Wd.u rfl) rfl rfl (fun v20 H20 r20 => ?_)
    obtain ⟨rfl, hm, hs20, ob20, hH20⟩ := r20
    have hzs20 : H20.size = H19.size + 1 := by rw [hH20]; simp
    have df8 := (DF.new (bf_ha.mono hm0.size) : DF _ (H19.size + 1))
    have df9 := (DF.new (bf_hb.mono hm0.size) : DF _ (H19.size + 1))
    have dj10 : Dj kx (H19.size + 1) := Dj.new ox.le
    have dj11 : Dj ky (H19.size + 1) := Dj.new oy.le
    have nx12 : Nx 0 H0.size (H19.size + 1) := Nx.new hm0.size
    replace ha := ha.nw hs20
    replace hb := hb.nw hs20
    replace ox := ox.nw hs20
    replace oy := oy.nw hs20
    replace hm0 := hm0.tr hs20
    have hz4 := hs20.size
    have hlt_hm := hm.lt
    refine LR.v (Y.assign rfl rfl) (Wd.u rfl) rfl rfl ?_
    refine LR.nil ?_
    refine hK6 _ _ ?_
    refine CW.seq (fun K7 hK7 hE7 => ?_)
    refine CW.seq (fun K8 hK8 hE8 => ?_)
    refine CW.region ?_
    refine LR.v (Y.move rfl rfl) (Wd.u rfl) rfl rfl ?_
    refine LR.v (Y.len ox.rd rfl Try.runUnderlying41 rfl) (Wd.u rfl) rfl rfl ?_
    refine LR.v (Y.move rfl rfl) (Wd.u rfl) rfl rfl ?_
    refine LR.nil ?_
    refine hK8 _ _ ?_
    refine CW.block (fun K9 hK9 hX9 hE9 => ?_)
    refine CW.loop (fun (s_ : (Nat) × (List (List UInt8 × Int))) => match s_ with | (i, m) => [(5, v17), (6, v19), (7, .map (some H19.size)), (21, v17), (22, .int .i64 xs.length), (23, .int .i64 i)])
      (fun (s_ : (Nat) × (List (List UInt8 × Int))) (H : Heap) => match s_ with | (i, m) => (i ≤ xs.length) ∧ (Mp H Str (Value.int .i64) H19.size m) ∧ (∀ s, (mget m s).getD 0 = ((cn (xs.take i) s : Nat) : Int)) ∧ Mo (Ms [(H19.size + 1)]) H20 H)
      (fun (s_ : (Nat) × (List (List UInt8 × Int))) => match s_ with | (i, m) => xs.length - i) (0, []) ⟨rfl, rfl, rfl, rfl, rfl, rfl, trivial⟩ ?_ ?_
    ·
      exact ⟨(by omega), hm, (fun s => rfl), Mo.refl _ _⟩
    rintro ⟨i, m⟩ HL1 hI1 K10 hN10 hE10
    obtain ⟨hi, hm, hc, hlm1⟩ := hI1
    replace ha := ha.upL hlm1 (DFL.cons df8 DFL.nil)
    replace hb := hb.upL hlm1 (DFL.cons df9 DFL.nil)
    replace ox := ox.upL hlm1 (DL.cons dj10 DL.nil)
    replace oy := oy.upL hlm1 (DL.cons dj11 DL.nil)
    replace hm0 := (Mo.trL (ks := []) (hm0.mdn []) hlm1 (MIL.cons (MI.app MI.z (nx12) (Nat.le_refl _)) MIL.nil)).nil
    have hz5 := hlm1.size
    have nx_hlm1_hm := Nx.refl (H19.size + 1) H20.size
    refine CW.seq (fun K11 hK11 hE11 => ?_)
    refine CW.region ?_
    refine LR.v (Y.lss rfl rfl rfl) (Wd.u rfl) rfl rfl ?_
    refine LR.nil ?_
    refine hK11 _ _ ?_
    refine CW.seq (fun K12 hK12 hE12 => ?_)
    refine CW.condp rfl (fun c24 => ?_) (fun c24 => ?_)
    ·
      refine CW.skip ?_
      refine hK12 _ _ ?_
      refine CW.seq (fun K13 hK13 hE13 => ?_)
      refine CW.block (fun K14 hK14 hX14 hE14 => ?_)
      refine CW.seq (fun K15 hK15 hE15 => ?_)
      refine CW.region ?_
      refine LR.v (Y.owAddr ox (i) rfl Try.runUnderlying41 Try.sizeOf9 rfl rfl (by first | rfl | omega) (by first | omega | (simp; omega) | (simp; done))) (Wd.u rfl) rfl rfl ?_
      refine LR.v (Y.load1 (ox.pt (j := i) (by first | omega | (simp; omega) | (simp; done))) rfl Try.isAgg9 rfl) (Wd.u rfl) rfl rfl ?_
      refine LR.v (Y.assign rfl rfl) (Wd.u rfl) rfl rfl ?_
      refine LR.nil ?_
      refine hK15 _ _ ?_
      refine CW.region ?_
      refine LR.v (Y.move rfl rfl) (Wd.u rfl) rfl rfl ?_
      refine LR.v (Y.move rfl rfl) (Wd.u rfl) rfl rfl ?_
      refine LR.v (Y.lookup hm.mo keyStr rfl Try.runUnderlying51 Try.underlying9 Try.zeroValue3 rfl rfl) (Wd.u rfl) rfl rfl ?_
      have hci := hc xs[i]
      have hcl := cn_le (xs.take i) xs[i]
      rw [List.length_take] at hcl
      refine LR.v (Y.addi rfl rfl rfl (by omega)) (Wd.u rfl) rfl rfl ?_
      refine LR.s (S.putMp (_) hm keyStr rfl Try.runUnderlying51 Try.underlying9 rfl rfl rfl) (Wd.u rfl) rfl (fun H8_4 r8_4 => ?_)
      obtain ⟨hm, hs8_4⟩ := r8_4
      replace hs8_4 := hs8_4.md1
      replace ha := ha.upL hs8_4 (DFL.cons df8 DFL.nil)
      replace hb := hb.upL hs8_4 (DFL.cons df9 DFL.nil)
      replace ox := ox.upL hs8_4 (DL.cons dj10 DL.nil)
      replace oy := oy.upL hs8_4 (DL.cons dj11 DL.nil)
      replace hm0 := (Mo.trL (ks := []) (hm0.mdn []) hs8_4 (MIL.cons (MI.app MI.z (nx12) (Nat.le_refl _)) MIL.nil)).nil
      replace hlm1 := hlm1.trL hs8_4 (MIL.cons (MI.app (MI.root (by simp)) (nx_hlm1_hm) (Nat.le_refl _)) MIL.nil)
      have hz6 := hs8_4.size
      refine LR.nil ?_
      refine hK14 _ _ ?_
      refine hK13 _ _ ?_
      refine CW.region ?_
      refine LR.v (Y.addi rfl rfl rfl (by omega)) (Wd.u rfl) rfl rfl ?_
      refine LR.v (Y.move rfl rfl) (Wd.u rfl) rfl rfl ?_
      refine LR.nil ?_
      refine QN.sub (hN10 (i + 1, mput m xs[i] ((mget m xs[i]).getD 0 + 1)) _ ?_ ?_) ⟨rfl, rfl, rfl, rfl, (iv (by omega)), (iv (by omega)), trivial⟩
      · exact ⟨(by omega), hm, cnt_up hc (by omega), hlm1⟩
      · first | omega | (simp only; omega) | (simp; omega)
    ·
      refine CW.exit (hE12 (.exit 0) nofun _ _ (hE10 (.exit 0) nofun _ _ (hX9 _ _ ?_)))
      refine hK7 _ _ ?_
      refine CW.seq (fun K16 hK16 hE16 => ?_)
      refine CW.region ?_
      refine LR.v (Y.assign rfl rfl) (Wd.u rfl) rfl rfl ?_
      refine LR.nil ?_
      refine hK16 _ _ ?_
      refine CW.seq (fun K17 hK17 hE17 => ?_)
      refine CW.seq (fun K18 hK18 hE18 => ?_)
      refine CW.region ?_
      refine LR.v (Y.move rfl rfl) (Wd.u rfl) rfl rfl ?_
      refine LR.v (Y.len oy.rd rfl Try.runUnderlying41 rfl) (Wd.u rfl) rfl rfl ?_
      refine LR.v (Y.move rfl rfl) (Wd.u rfl) rfl rfl ?_
      refine LR.nil ?_
      refine hK18 _ _ ?_
      refine CW.block (fun K19 hK19 hX19 hE19 => ?_)
      refine CW.loop (fun (s_ : (Nat) × (List (List UInt8 × Int)) × (Nat) × (List (List UInt8))) => match s_ with | (i, m, n, r) => [(5, v17), (6, v19), (7, .map (some H19.size)), (10, .int .i64 n), (32, v19), (33, .int .i64 ys.length), (34, .int .i64 i)])
        (fun (s_ : (Nat) × (List (List UInt8 × Int)) × (Nat) × (List (List UInt8))) (H : Heap) => match s_ with | (i, m, n, r) => (i ≤ ys.length) ∧ (Mp H Str (Value.int .i64) H19.size m) ∧ (∀ s, (mget m s).getD 0 = ((cn r s : Nat) : Int)) ∧ (n + pairN r (ys.drop i) = pairN xs ys) ∧ (n ≤ i) ∧ (r.length ≤ 1048576) ∧ Mo (Ms [(H19.size + 1)]) HL1 H)
        (fun (s_ : (Nat) × (List (List UInt8 × Int)) × (Nat) × (List (List UInt8))) => match s_ with | (i, m, n, r) => ys.length - i) (0, m, 0, xs) ⟨rfl, rfl, rfl, rfl, rfl, rfl, rfl, trivial⟩ ?_ ?_
      ·
        exact ⟨(by omega), hm, (fun s => by rw [hc s, List.take_of_length_le (by omega)]), by simp, (by omega), (by omega), Mo.refl _ _⟩
      rintro ⟨i, m, n, r⟩ HL2 hI2 K20 hN20 hE20
      obtain ⟨hi, hm, hc, hn, hni, hrl, hlm2⟩ := hI2
      replace ha := ha.upL hlm2 (DFL.cons df8 DFL.nil)
      replace hb := hb.upL hlm2 (DFL.cons df9 DFL.nil)
      replace ox := ox.upL hlm2 (DL.cons dj10 DL.nil)
      replace oy := oy.upL hlm2 (DL.cons dj11 DL.nil)
      replace hm0 := (Mo.trL (ks := []) (hm0.mdn []) hlm2 (MIL.cons (MI.app MI.z (nx12) (Nat.le_refl _)) MIL.nil)).nil
      have hz7 := hlm2.size
      have nx_hlm2_hm := Nx.refl (H19.size + 1) HL1.size
      refine CW.seq (fun K21 hK21 hE21 => ?_)
      refine CW.region ?_
      refine LR.v (Y.lss rfl rfl rfl) (Wd.u rfl) rfl rfl ?_
      refine LR.nil ?_
      refine hK21 _ _ ?_
      refine CW.seq (fun K22 hK22 hE22 => ?_)
      refine CW.condp rfl (fun c35 => ?_) (fun c35 => ?_)
      ·
        refine CW.skip ?_
        refine hK22 _ _ ?_
        refine CW.seq (fun K23 hK23 hE23 => ?_)
        refine CW.block (fun K24 hK24 hX24 hE24 => ?_)
        refine CW.seq (fun K25 hK25 hE25 => ?_)
        refine CW.region ?_
        refine LR.v (Y.owAddr oy (i) rfl Try.runUnderlying41 Try.sizeOf9 rfl rfl (by first | rfl | omega) (by first | omega | (simp; omega) | (simp; done))) (Wd.u rfl) rfl rfl ?_
        refine LR.v (Y.load1 (oy.pt (j := i) (by first | omega | (simp; omega) | (simp; done))) rfl Try.isAgg9 rfl) (Wd.u rfl) rfl rfl ?_
        refine LR.v (Y.assign rfl rfl) (Wd.u rfl) rfl rfl ?_
        refine LR.nil ?_
        refine hK25 _ _ ?_
        refine CW.seq (fun K26 hK26 hE26 => ?_)
        refine CW.region ?_
        refine LR.v (Y.move rfl rfl) (Wd.u rfl) rfl rfl ?_
        refine LR.v (Y.move rfl rfl) (Wd.u rfl) rfl rfl ?_
        refine LR.v (Y.lookup hm.mo keyStr rfl Try.runUnderlying51 Try.underlying9 Try.zeroValue3 rfl rfl) (Wd.u rfl) rfl rfl ?_
        refine LR.v (Y.gtr rfl rfl rfl) (Wd.u rfl) rfl rfl ?_
        refine LR.nil ?_
        refine hK26 _ _ ?_
        refine CW.condp rfl (fun c41 => ?_) (fun c41 => ?_)
        ·
          have hci := hc ys[i]
          have hmem : ys[i] ∈ r := cn_pos.1 (by omega)
          have hcl := cn_le r ys[i]
          refine CW.seq (fun K27 hK27 hE27 => ?_)
          refine CW.region ?_
          refine LR.v (Y.move rfl rfl) (Wd.u rfl) rfl rfl ?_
          refine LR.v (Y.move rfl rfl) (Wd.u rfl) rfl rfl ?_
          refine LR.v (Y.lookup hm.mo keyStr rfl Try.runUnderlying51 Try.underlying9 Try.zeroValue3 rfl rfl) (Wd.u rfl) rfl rfl ?_
          refine LR.v (Y.subi rfl rfl rfl (by omega)) (Wd.u rfl) rfl rfl ?_
          refine LR.s (S.putMp (_) hm keyStr rfl Try.runUnderlying51 Try.underlying9 rfl rfl rfl) (Wd.u rfl) rfl (fun H15_4 r15_4 => ?_)
          obtain ⟨hm, hs15_4⟩ := r15_4
          replace hs15_4 := hs15_4.md1
          replace ha := ha.upL hs15_4 (DFL.cons df8 DFL.nil)
          replace hb := hb.upL hs15_4 (DFL.cons df9 DFL.nil)
          replace ox := ox.upL hs15_4 (DL.cons dj10 DL.nil)
          replace oy := oy.upL hs15_4 (DL.cons dj11 DL.nil)
          replace hm0 := (Mo.trL (ks := []) (hm0.mdn []) hs15_4 (MIL.cons (MI.app MI.z (nx12) (Nat.le_refl _)) MIL.nil)).nil
          replace hlm2 := hlm2.trL hs15_4 (MIL.cons (MI.app (MI.root (by simp)) (nx_hlm2_hm) (Nat.le_refl _)) MIL.nil)
          have hz8 := hs15_4.size
          refine LR.nil ?_
          refine hK27 _ _ ?_
          refine CW.region ?_
          refine LR.v (Y.move rfl rfl) (Wd.u rfl) rfl rfl ?_
          refine LR.v (Y.addi rfl rfl rfl (by omega)) (Wd.u rfl) rfl rfl ?_
          refine LR.v (Y.assign rfl rfl) (Wd.u rfl) rfl rfl ?_
          refine LR.nil ?_
          refine hK24 _ _ ?_
          refine hK23 _ _ ?_
          refine CW.region ?_
          refine LR.v (Y.addi rfl rfl rfl (by omega)) (Wd.u rfl) rfl rfl ?_
          refine LR.v (Y.move rfl rfl) (Wd.u rfl) rfl rfl ?_
          refine LR.nil ?_
          refine QN.sub (hN20 (i + 1, mput m ys[i] ((mget m ys[i]).getD 0 - 1), n + 1, er r ys[i]) _ ?_ ?_) ⟨rfl, rfl, rfl, (iv (by omega)), rfl, (iv (by omega)), (iv (by omega)), trivial⟩
          · exact ⟨(by omega), hm, cnt_dn hc hmem, by rw [← hn, pairN_hit (by omega) hmem]; omega, (by omega), (by have h9 := er_len r ys[i]; omega), hlm2⟩
          · first | omega | (simp only; omega) | (simp; omega)
        ·
          have hci := hc ys[i]
          have hmem : ¬ ys[i] ∈ r := fun q => by have h9 := cn_pos.2 q; omega
          refine CW.skip ?_
          refine hK24 _ _ ?_
          refine hK23 _ _ ?_
          refine CW.region ?_
          refine LR.v (Y.addi rfl rfl rfl (by omega)) (Wd.u rfl) rfl rfl ?_
          refine LR.v (Y.move rfl rfl) (Wd.u rfl) rfl rfl ?_
          refine LR.nil ?_
          refine QN.sub (hN20 (i + 1, m, n, r) _ ?_ ?_) ⟨rfl, rfl, rfl, (iv (by omega)), rfl, (iv (by omega)), (iv (by omega)), trivial⟩
          · exact ⟨(by omega), hm, (by omega), by rw [← hn, pairN_miss (by omega) hmem], (by omega), (by omega), hlm2⟩
          · first | omega | (simp only; omega) | (simp; omega)
      ·
        have hi2 : i = ys.length := by omega
        rw [pairN_end (by omega)] at hn
        refine CW.exit (hE22 (.exit 2) nofun _ _ (hE20 (.exit 2) nofun _ _ (hX19 _ _ ?_)))
        refine hK17 _ _ ?_
        refine CW.seq (fun K28 hK28 hE28 => ?_)
        refine CW.region ?_
        refine LR.v (Y.move rfl rfl) (Wd.u rfl) rfl rfl ?_
        refine LR.v (Y.muli rfl rfl rfl (by omega)) (Wd.u rfl) rfl rfl ?_
        refine LR.v (Y.move rfl rfl) (Wd.u rfl) rfl rfl ?_
        refine LR.v (Y.len ox.rd rfl Try.runUnderlying41 rfl) (Wd.u rfl) rfl rfl ?_
        refine LR.v (Y.move rfl rfl) (Wd.u rfl) rfl rfl ?_
        refine LR.v (Y.len oy.rd rfl Try.runUnderlying41 rfl) (Wd.u rfl) rfl rfl ?_
        refine LR.v (Y.addi rfl rfl rfl (by omega)) (Wd.u rfl) rfl rfl ?_
        have hne : 1 ≤ xs.length + ys.length := by
          rcases Nat.eq_zero_or_pos (xs.length + ys.length) with h9 | h9
          · have h1 : xs = [] := List.eq_nil_of_length_eq_zero (by omega)
            have h2 : ys = [] := List.eq_nil_of_length_eq_zero (by omega)
            rw [h1] at hxs; rw [h2] at hys
            exact absurd ((splitL_ne hxs).1.trans (splitL_ne hys).1.symm) c15
          · exact h9
        refine LR.v (Y.quoi rfl rfl rfl (by omega)) (Wd.u rfl) rfl rfl ?_
        refine LR.v (Y.assign rfl rfl) (Wd.u rfl) rfl rfl ?_
        refine LR.nil ?_
        refine hK28 _ _ ?_
        refine CW.ret (hret .ret (.inr rfl) _ _ _ (res1 rfl rfl) ?_)
        exact ⟨by rw [scoreB, scoreL, if_neg c15, hxs, hys, ← hn]; simp, hm0⟩


/-- what of a list is not used -/
def unus {α : Type} (l : List α) (u : List Bool) : List α := ((l.zip u).filter (fun p => !p.2)).map (·.1)
theorem unus_all {α : Type} (l : List α) : unus l (List.replicate l.length false) = l := by
  unfold unus
  induction l with
  | nil => rfl
  | cons x l ih => simp only [List.length_cons, List.replicate_succ, List.zip_cons_cons, List.filter_cons, Bool.not_false, if_true, List.map_cons]; rw [ih]
/-- the first place, not used, at which x stands, from j on -/
theorem unus_hit {α : Type} [DecidableEq α] : ∀ {l : List α} {u : List Bool} {k : Nat} {x : α} (hl : u.length = l.length) (hk : k < l.length) (h1 : u[k]'(by omega) = false) (h2 : l[k] = x) (h3 : ∀ q (h : q < k), u[q]'(by omega) = false → l[q] ≠ x), x ∈ unus l u ∧ unus l (u.set k true) = er (unus l u) x
  | [], _, _, _, _, hk, _, _, _ => by simp at hk
  | y :: l, [], _, _, hl, _, _, _, _ => by simp at hl
  | y :: l, b :: u, 0, x, hl, hk, h1, h2, h3 => by
    simp only [List.getElem_cons_zero] at h1 h2
    subst h1 h2
    simp [unus, er]
  | y :: l, b :: u, k + 1, x, hl, hk, h1, h2, h3 => by
    have ih := unus_hit (l := l) (u := u) (k := k) (x := x) (by simpa using hl) (by simpa using hk) (by simpa using h1) (by simpa using h2) (fun q h h4 => by
      have := h3 (q + 1) (by omega) (by simpa using h4)
      simpa using this)
    cases b with
    | true =>
      have e : unus (y :: l) (true :: u) = unus l u := by simp [unus]
      have e2 : unus (y :: l) ((true :: u).set (k + 1) true) = unus l (u.set k true) := by simp [unus]
      rw [e, e2]; exact ih
    | false =>
      have e : unus (y :: l) (false :: u) = y :: unus l u := by simp [unus]
      have e2 : unus (y :: l) ((false :: u).set (k + 1) true) = y :: unus l (u.set k true) := by simp [unus]
      have hy : y ≠ x := by have := h3 0 (by omega) (by simp); simpa using this
      rw [e, e2, ih.2]
      refine ⟨List.mem_cons_of_mem _ ih.1, ?_⟩
      unfold er
      rw [List.erase_cons_tail (by simpa using hy)]
theorem unus_mem {α : Type} : ∀ {l : List α} {u : List Bool} {x : α} (hl : u.length = l.length), x ∈ unus l u → ∃ k, ∃ h : k < l.length, u[k]'(by omega) = false ∧ l[k] = x
  | [], u, x, hl, h => by simp [unus] at h
  | y :: l, [], _, hl, _ => by simp at hl
  | y :: l, b :: u, x, hl, h => by
    have ih := fun h => unus_mem (l := l) (u := u) (x := x) (by simpa using hl) h
    cases b with
    | true =>
      have e : unus (y :: l) (true :: u) = unus l u := by simp [unus]
      rw [e] at h
      obtain ⟨k, h1, h2, h3⟩ := ih h
      exact ⟨k + 1, by simpa using h1, by simpa using h2, by simpa using h3⟩
    | false =>
      have e : unus (y :: l) (false :: u) = y :: unus l u := by simp [unus]
      rw [e] at h
      rcases List.mem_cons.1 h with rfl | h
      · exact ⟨0, by simp, rfl, rfl⟩
      · obtain ⟨k, h1, h2, h3⟩ := ih h
        exact ⟨k + 1, by simpa using h1, by simpa using h2, by simpa using h3⟩
theorem unus_no {α : Type} {l : List α} {u : List Bool} {x : α} (hl : u.length = l.length) (h3 : ∀ q (h : q < l.length), u[q]'(by omega) = false → l[q] ≠ x) : ¬ x ∈ unus l u := fun h => by
  obtain ⟨k, h1, h2, h4⟩ := unus_mem hl h
  exact h3 k h1 h2 h4
abbrev fO (b : Bool) : List Value := [.bool b]
theorem fO_len (b : Bool) : (fO b).length = 1 := rfl
theorem fO_one (b : Bool) : ∀ u ∈ fO b, u.oneCell' = true := by intro u hu; rw [List.mem_singleton] at hu; rw [hu]; rfl

theorem rscore_ct (v1 v2 : Value) (a b : List UInt8) (w0 : World) (H0 : Heap)
    (ha : RdT H0 fB 1 v1 a) (hb : RdT H0 fB 1 v2 b) (hal : a.length ≤ 1048576) (hbl : b.length ≤ 1048576) :
    Ct Try.prog w0 12 #[v1, v2] H0 (fun r H2 => r = .int .i64 (scoreB a b : Nat) ∧ Nw H0 H2) := by
  refine Ct.enter (args := [v1, v2]) Try.func12 rfl rfl rfl ?_
  intro Q0 hret
  have hm0 : Nw H0 H0 := Mo.refl _ _
  replace ha := ha.bnd
  have bf_ha := Rd.bf ha
  replace hb := hb.bnd
  have bf_hb := Rd.bf hb
  refine CW.seq (fun K1 hK1 hE1 => ?_)
  refine CW.region ?_
  refine LR.v (Y.assign rfl rfl) (Wd.u rfl) rfl rfl ?_
  refine LR.nil ?_
  refine hK1 _ _ ?_
  refine CW.seq (fun K2 hK2 hE2 => ?_)
  refine CW.seq (fun K3 hK3 hE3 => ?_)
  refine CW.region ?_
  refine LR.v (Y.move rfl rfl) (Wd.u rfl) rfl rfl ?_
  refine LR.v (Y.bstr ha rfl Try.underlying22 Try.underlying9 Try.underlying5 rfl) (Wd.u rfl) rfl rfl ?_
  refine LR.v (Y.move rfl rfl) (Wd.u rfl) rfl rfl ?_
  refine LR.v (Y.bstr hb rfl Try.underlying22 Try.underlying9 Try.underlying5 rfl) (Wd.u rfl) rfl rfl ?_
  refine LR.v (Y.seql rfl rfl rfl) (Wd.u rfl) rfl rfl ?_
  refine LR.nil ?_
  refine hK3 _ _ ?_
  refine CW.condp rfl (fun c15 => ?_) (fun c15 => ?_)
  ·
    refine CW.seq (fun K4 hK4 hE4 => ?_)
    refine CW.region ?_
    refine LR.v (Y.assign rfl rfl) (Wd.u rfl) rfl rfl ?_
    refine LR.nil ?_
    refine hK4 _ _ ?_
    refine CW.ret (hE2 .ret nofun _ _ (hret .ret (.inr rfl) _ _ _ (res1 rfl rfl) ?_))
    exact ⟨by rw [scoreB, scoreL, if_pos (by assumption)]; rfl, hm0⟩
  ·
    refine CW.skip ?_
    refine hK2 _ _ ?_
    refine CW.seq (fun K5 hK5 hE5 => ?_)
    refine CW.region ?_
    refine LR.v (Y.move rfl rfl) (Wd.u rfl) rfl rfl ?_
    -- call selvage/selvageref12.Split
    refine LR.call rfl Try.call24 rfl (Wd.u rfl) rfl rfl (rsplit3 _ a w0 _ ha.any hal) (fun v17 H17 r17 => ?_)
    obtain ⟨v17, kx, rfl, ox, hkx, hs17⟩ := r17
    have df1 := DF.app (DF.z) (bf_ha.mono hm0.size) hkx
    have df2 := DF.app (DF.z) (bf_hb.mono hm0.size) hkx
    have nx3 : Nx 0 H0.size kx := Nx.tr (Nx.refl 0 _) hkx hm0.size
    replace ha := ha.nw hs17
    replace hb := hb.nw hs17
    replace hm0 := hm0.tr hs17
    have hz1 := hs17.size
    have hle_ox := ox.le
    obtain ⟨xs, hxs⟩ : ∃ l, splitL [] a = l := ⟨_, rfl⟩
    have hxl := splitL_len a []
    rw [hxs] at ox hxl
    have hxl2 := ox.len
    simp only [List.length_nil] at hxl
    refine LR.v (Y.move rfl rfl) (Wd.u rfl) rfl rfl ?_
    -- call selvage/selvageref12.Split
    refine LR.call rfl Try.call24 rfl (Wd.u rfl) rfl rfl (rsplit3 _ b w0 _ hb.any hbl) (fun v19 H19 r19 => ?_)
    obtain ⟨v19, ky, rfl, oy, hky, hs19⟩ := r19
    have df4 := DF.app (DF.z) (bf_ha.mono hm0.size) hky
    have df5 := DF.app (DF.z) (bf_hb.mono hm0.size) hky
    have dj6 : Dj kx ky := Dj.app (Dj.z) ox.le hky
    have nx7 : Nx 0 H0.size ky := Nx.tr (Nx.refl 0 _) hky hm0.size
    replace ha := ha.nw hs19
    replace hb := hb.nw hs19
    replace ox := ox.nw hs19
    replace hm0 := hm0.tr hs19
    have hz2 := hs19.size
    have hle_oy := oy.le
    obtain ⟨ys, hys⟩ : ∃ l, splitL [] b = l := ⟨_, rfl⟩
    have hyl := splitL_len b []
    rw [hys] at oy hyl
    have hyl2 := oy.len
    simp only [List.length_nil] at hyl
    refine LR.v (Y.assign rfl rfl) (Wd.u rfl) rfl rfl ?_
    refine LR.v (Y.assign rfl rfl) (Wd.u rfl) rfl rfl ?_
    refine LR.nil ?_
    refine hK5 _ _ ?_
    refine CW.seq (fun K6 hK6 hE6 => ?_)
    refine CW.region ?_
    refine LR.v (Y.move rfl rfl) (Wd.u rfl) rfl rfl ?_
    refine LR.v (Y.len oy.rd rfl Try.runUnderlying41 rfl) (Wd.u rfl) rfl rfl ?_
    refine LR.z (Z.makew (ys.length) (false) rfl inf43 Try.zeroValue4 rfl fO_len fO_one rfl rfl (by first | rfl | omega) (by omega) (by omega)) (Wd.u rfl) rfl rfl (fun v22 H22 r22 => ?_)
    obtain ⟨ou, hs22, ob22, hH22⟩ := r22
    have hzs22 : H22.size = H19.size + 1 := by rw [hH22]; simp
    have df8 := (DF.new (bf_ha.mono hm0.size) : DF _ (H19.size + 1))
    have df9 := (DF.new (bf_hb.mono hm0.size) : DF _ (H19.size + 1))
    have dj10 : Dj kx (H19.size + 1) := Dj.new ox.le
    have dj11 : Dj ky (H19.size + 1) := Dj.new oy.le
    have nx12 : Nx 0 H0.size (H19.size + 1) := Nx.new hm0.size
    replace ha := ha.nw hs22
    replace hb := hb.nw hs22
    replace ox := ox.nw hs22
    replace oy := oy.nw hs22
    replace hm0 := hm0.tr hs22
    have hz3 := hs22.size
    refine LR.v (Y.assign rfl rfl) (Wd.u rfl) rfl rfl ?_
    refine LR.nil ?_
    refine hK6 _ _ ?_
    refine CW.seq (fun K7 hK7 hE7 => ?_)
    refine CW.region ?_
    refine LR.v (Y.assign rfl rfl) (Wd.u rfl) rfl rfl ?_
    refine LR.nil ?_
    refine hK7 _ _ ?_
    refine CW.seq (fun K8 hK8 hE8 => ?_)
    refine CW.seq (fun K9 hK9 hE9 => ?_)
    refine CW.region ?_
    refine LR.v (Y.assign rfl rfl) (Wd.u rfl) rfl rfl ?_
    refine LR.nil ?_
    refine hK9 _ _ ?_
    refine CW.block (fun K10 hK10 hX10 hE10 => ?_)
    refine CW.loop (fun (s_ : (Nat) × (List Bool) × (Nat)) => match s_ with | (i, u, n) => [(5, v17), (6, v19), (7, v22), (8, .int .i64 n), (9, .int .i64 i)])
      (fun (s_ : (Nat) × (List Bool) × (Nat)) (H : Heap) => match s_ with | (i, u, n) => (i ≤ xs.length) ∧ (Ow (H19.size + 1) 4 H fO 1 v22 u) ∧ (u.length = ys.length) ∧ (n + pairN (unus ys u) (xs.drop i) = pairN ys xs) ∧ (n ≤ i) ∧ (Nx (H19.size + 1) H22.size (H19.size + 1)) ∧ Mo (Ms [(H19.size + 1)]) H22 H)
      (fun (s_ : (Nat) × (List Bool) × (Nat)) => match s_ with | (i, u, n) => xs.length - i) (0, List.replicate ys.length false, 0) ⟨rfl, rfl, rfl, rfl, rfl, trivial⟩ ?_ ?_
    ·
      exact ⟨(by omega), ou, by simp, by rw [unus_all]; simp, (by omega), Nx.refl _ _, Mo.refl _ _⟩
    rintro ⟨i, u, n⟩ HL1 hI1 K11 hN11 hE11
    obtain ⟨hi, ou, hul, hn, hni, nxl_ou, hlm1⟩ := hI1
    have df13 := DF.app (df8) (bf_ha.mono hm0.size) nxl_ou
    have df14 := DF.app (df9) (bf_hb.mono hm0.size) nxl_ou
    have dj15 : Dj kx (H19.size + 1) := Dj.app (dj10) ox.le nxl_ou
    have dj16 : Dj ky (H19.size + 1) := Dj.app (dj11) oy.le nxl_ou
    have nx17 : Nx 0 H0.size (H19.size + 1) := Nx.tr (nx12) nxl_ou hm0.size
    replace ha := ha.upL hlm1 (DFL.cons df8 DFL.nil)
    replace hb := hb.upL hlm1 (DFL.cons df9 DFL.nil)
    replace ox := ox.upL hlm1 (DL.cons dj10 DL.nil)
    replace oy := oy.upL hlm1 (DL.cons dj11 DL.nil)
    replace hm0 := (Mo.trL (ks := []) (hm0.mdn []) hlm1 (MIL.cons (MI.app MI.z (nx12) (Nat.le_refl _)) MIL.nil)).nil
    have hz4 := hlm1.size
    have hle_ou := ou.le
    have nx18 := nxl_ou
    refine CW.seq (fun K12 hK12 hE12 => ?_)
    refine CW.seq (fun K13 hK13 hE13 => ?_)
    refine CW.region ?_
    refine LR.v (Y.move rfl rfl) (Wd.u rfl) rfl rfl ?_
    refine LR.v (Y.move rfl rfl) (Wd.u rfl) rfl rfl ?_
    refine LR.v (Y.len ox.rd rfl Try.runUnderlying41 rfl) (Wd.u rfl) rfl rfl ?_
    refine LR.v (Y.lss rfl rfl rfl) (Wd.u rfl) rfl rfl ?_
    refine LR.nil ?_
    refine hK13 _ _ ?_
    refine CW.condp rfl (fun c26 => ?_) (fun c26 => ?_)
    ·
      refine CW.skip ?_
      refine hK12 _ _ ?_
      refine CW.seq (fun K14 hK14 hE14 => ?_)
      refine CW.block (fun K15 hK15 hX15 hE15 => ?_)
      refine CW.seq (fun K16 hK16 hE16 => ?_)
      refine CW.region ?_
      refine LR.v (Y.assign rfl rfl) (Wd.u rfl) rfl rfl ?_
      refine LR.nil ?_
      refine hK16 _ _ ?_
      refine CW.block (fun K17 hK17 hX17 hE17 => ?_)
      refine CW.loop (fun (k : (Nat)) => [(5, v17), (6, v19), (7, v22), (8, .int .i64 n), (9, .int .i64 i), (10, .int .i64 k)])
        (fun (k : (Nat)) (H : Heap) => (k ≤ ys.length) ∧ (∀ q (h : q < k) (h2 : q < ys.length), u[q]'(by omega) = false → ys[q] ≠ xs[i]'(by omega)) ∧ Nw HL1 H)
        (fun (k : (Nat)) => ys.length - k) 0 ⟨rfl, rfl, rfl, rfl, rfl, rfl, trivial⟩ ?_ ?_
      ·
        exact ⟨(by omega), (fun q h => absurd h (Nat.not_lt_zero _)), Mo.refl _ _⟩
      intro k HL2 hI2 K18 hN18 hE18
      obtain ⟨hk, hpast, hlm2⟩ := hI2
      replace ha := ha.nw hlm2
      replace hb := hb.nw hlm2
      replace ox := ox.nw hlm2
      replace oy := oy.nw hlm2
      replace ou := ou.nw hlm2
      replace hm0 := hm0.tr hlm2
      replace hlm1 := hlm1.trN hlm2
      have hz5 := hlm2.size
      refine CW.seq (fun K19 hK19 hE19 => ?_)
      refine CW.seq (fun K20 hK20 hE20 => ?_)
      refine CW.region ?_
      refine LR.v (Y.move rfl rfl) (Wd.u rfl) rfl rfl ?_
      refine LR.v (Y.move rfl rfl) (Wd.u rfl) rfl rfl ?_
      refine LR.v (Y.len oy.rd rfl Try.runUnderlying41 rfl) (Wd.u rfl) rfl rfl ?_
      refine LR.v (Y.lss rfl rfl rfl) (Wd.u rfl) rfl rfl ?_
      refine LR.nil ?_
      refine hK20 _ _ ?_
      refine CW.condp rfl (fun c32 => ?_) (fun c32 => ?_)
      ·
        refine CW.skip ?_
        refine hK19 _ _ ?_
        refine CW.seq (fun K21 hK21 hE21 => ?_)
        refine CW.block (fun K22 hK22 hX22 hE22 => ?_)
        refine CW.seq (fun K23 hK23 hE23 => ?_)
        refine CW.region_draw rfl (by kernel_rfl) ?_
        refine LR.v (Y.move rfl rfl) (Wd.u rfl) rfl rfl ?_
        refine LR.v (Y.move rfl rfl) (Wd.u rfl) rfl rfl ?_
        refine LR.v (Y.owAddr ou (k) rfl Try.runUnderlying43 Try.sizeOf4 rfl rfl (by first | rfl | omega) (by first | omega | (simp; omega) | (simp; done))) (Wd.u rfl) rfl rfl ?_
        refine LR.v (Y.load1 (ou.pt (j := k) (by first | omega | (simp; omega) | (simp; done))) rfl Try.isAgg4 rfl) (Wd.u rfl) rfl rfl ?_
        refine LR.v (Y.not rfl rfl) (Wd.u rfl) rfl rfl ?_
        refine LR.v (Y.move rfl rfl) (Wd.u rfl) rfl rfl ?_
        refine LR.split (d := 40) rfl (fun g40 => ?_) (fun g40 => ?_)
        ·
          refine LR.v (Y.move rfl rfl) (Wd.g rfl rfl rfl) rfl rfl ?_
          refine LR.v (Y.move rfl rfl) (Wd.g rfl rfl rfl) rfl rfl ?_
          refine LR.v (Y.owAddr ox (i) rfl Try.runUnderlying41 Try.sizeOf9 rfl rfl (by first | rfl | omega) (by first | omega | (simp; omega) | (simp; done))) (Wd.g rfl rfl rfl) rfl rfl ?_
          refine LR.v (Y.load1 (ox.pt (j := i) (by first | omega | (simp; omega) | (simp; done))) rfl Try.isAgg9 rfl) (Wd.g rfl rfl rfl) rfl rfl ?_
          refine LR.v (Y.move rfl rfl) (Wd.g rfl rfl rfl) rfl rfl ?_
          refine LR.v (Y.move rfl rfl) (Wd.g rfl rfl rfl) rfl rfl ?_
          refine LR.v (Y.owAddr oy (k) rfl Try.runUnderlying41 Try.sizeOf9 rfl rfl (by first | rfl | omega) (by first | omega | (simp; omega) | (simp; done))) (Wd.g rfl rfl rfl) rfl rfl ?_
          refine LR.v (Y.load1 (oy.pt (j := k) (by first | omega | (simp; omega) | (simp; done))) rfl Try.isAgg9 rfl) (Wd.g rfl rfl rfl) rfl rfl ?_
          refine LR.v (Y.seql rfl rfl rfl) (Wd.g rfl rfl rfl) rfl rfl ?_
          refine LR.v (Y.pick_t rfl rfl rfl) (Wd.u rfl) rfl rfl ?_
          refine LR.nil ?_
          refine hK23 _ _ ?_
          refine CW.condp rfl (fun c50 => ?_) (fun c50 => ?_)
          ·
            refine CW.seq (fun K24 hK24 hE24 => ?_)
            refine CW.region ?_
            refine LR.v (Y.move rfl rfl) (Wd.u rfl) rfl rfl ?_
            refine LR.v (Y.move rfl rfl) (Wd.u rfl) rfl rfl ?_
            refine LR.v (Y.owAddr ou (k) rfl Try.runUnderlying43 Try.sizeOf4 rfl rfl (by first | rfl | omega) (by first | omega | (simp; omega) | (simp; done))) (Wd.u rfl) rfl rfl ?_
            refine LR.s (S.oww ou (k) 0 (_) rfl rfl rfl rfl Try.sizeOf4 (by first | omega | (simp; omega) | (simp; done)) (by decide) (rfl)) (Wd.u rfl) rfl (fun H13_3 r13_3 => ?_)
            obtain ⟨ou, hs13_3⟩ := r13_3
            replace hs13_3 := hs13_3.md
            replace ha := ha.upL hs13_3 (DFL.cons df13 DFL.nil)
            replace hb := hb.upL hs13_3 (DFL.cons df14 DFL.nil)
            replace ox := ox.upL hs13_3 (DL.cons dj15 DL.nil)
            replace oy := oy.upL hs13_3 (DL.cons dj16 DL.nil)
            replace hm0 := (Mo.trL (ks := []) (hm0.mdn []) hs13_3 (MIL.cons (MI.app MI.z (nx17) (Nat.le_refl _)) MIL.nil)).nil
            replace hlm1 := hlm1.trL hs13_3 (MIL.cons (MI.app (MI.root (by simp)) (nx18) (Nat.le_refl _)) MIL.nil)
            -- LOST hlm2
            have hz6 := hs13_3.size
            refine LR.nil ?_
            refine hK24 _ _ ?_
            refine CW.seq (fun K25 hK25 hE25 => ?_)
            refine CW.region ?_
            refine LR.v (Y.move rfl rfl) (Wd.u rfl) rfl rfl ?_
            refine LR.v (Y.addi rfl rfl rfl (by omega)) (Wd.u rfl) rfl rfl ?_
            refine LR.v (Y.assign rfl rfl) (Wd.u rfl) rfl rfl ?_
            refine LR.nil ?_
            refine hK25 _ _ ?_
            refine CW.exit (hE22 (.exit 2) nofun (by simp) _ _ (hE21 (.exit 2) nofun _ _ (hE18 (.exit 2) nofun _ _ (hX17 _ _ ?_))))
            refine hK15 _ _ ?_
            refine hK14 _ _ ?_
            refine CW.region ?_
            refine LR.v (Y.move rfl rfl) (Wd.u rfl) rfl rfl ?_
            refine LR.v (Y.addi rfl rfl rfl (by omega)) (Wd.u rfl) rfl rfl ?_
            refine LR.v (Y.assign rfl rfl) (Wd.u rfl) rfl rfl ?_
            refine LR.nil ?_
            have hik : k < ys.length := by omega
            have huk : u[k] = false := by simpa using g40
            have heq : xs[i] = ys[k] := c50
            have h9 := unus_hit (x := xs[i]) hul hik huk heq.symm (fun q h h2 => hpast q h (by omega) h2)
            refine QN.sub (hN11 (i + 1, u.set k true, n + 1) _ ?_ ?_) ⟨rfl, rfl, rfl, (iv (by omega)), (iv (by omega)), trivial⟩
            · exact ⟨(by omega), ou, by simpa using hul, by rw [← hn, pairN_hit (by omega) h9.1, h9.2]; omega, (by omega), nx18, hlm1⟩
            · first | omega | (simp only; omega) | (simp; omega)
          ·
            refine CW.skip ?_
            refine hK22 _ _ ?_
            refine hK21 _ _ ?_
            refine CW.region ?_
            refine LR.v (Y.move rfl rfl) (Wd.u rfl) rfl rfl ?_
            refine LR.v (Y.addi rfl rfl rfl (by omega)) (Wd.u rfl) rfl rfl ?_
            refine LR.v (Y.assign rfl rfl) (Wd.u rfl) rfl rfl ?_
            refine LR.nil ?_
            refine QN.sub (hN18 (k + 1) _ ?_ ?_) ⟨rfl, rfl, rfl, (iv (by omega)), (iv (by omega)), (iv (by omega)), trivial⟩
            · exact ⟨(by omega), (fun q h h2 h4 => by rcases Nat.lt_succ_iff_lt_or_eq.1 h with h5 | rfl; exact hpast q h5 h2 h4; exact fun e => c50 e.symm), hlm2⟩
            · first | omega | (simp only; omega) | (simp; omega)
        ·
          refine LR.gs rfl rfl rfl rfl rfl rfl ?_
          refine LR.gs rfl rfl rfl rfl rfl rfl ?_
          refine LR.gs rfl rfl rfl rfl rfl rfl ?_
          refine LR.gs rfl rfl rfl rfl rfl rfl ?_
          refine LR.gs rfl rfl rfl rfl rfl rfl ?_
          refine LR.gs rfl rfl rfl rfl rfl rfl ?_
          refine LR.gs rfl rfl rfl rfl rfl rfl ?_
          refine LR.gs rfl rfl rfl rfl rfl rfl ?_
          refine LR.gs rfl rfl rfl rfl rfl rfl ?_
          refine LR.v (Y.pick_f rfl rfl rfl) (Wd.u rfl) rfl rfl ?_
          refine LR.nil ?_
          refine hK23 _ _ ?_
          refine CW.cond_f rfl ?_
          refine CW.skip ?_
          refine hK22 _ _ ?_
          refine hK21 _ _ ?_
          refine CW.region ?_
          refine LR.v (Y.move rfl rfl) (Wd.u rfl) rfl rfl ?_
          refine LR.v (Y.addi rfl rfl rfl (by omega)) (Wd.u rfl) rfl rfl ?_
          refine LR.v (Y.assign rfl rfl) (Wd.u rfl) rfl rfl ?_
          refine LR.nil ?_
          refine QN.sub (hN18 (k + 1) _ ?_ ?_) ⟨rfl, rfl, rfl, (iv (by omega)), (iv (by omega)), (iv (by omega)), trivial⟩
          · exact ⟨(by omega), (fun q h h2 h4 => by rcases Nat.lt_succ_iff_lt_or_eq.1 h with h5 | rfl; exact hpast q h5 h2 h4; simp [h4] at g40), hlm2⟩
          · first | omega | (simp only; omega) | (simp; omega)
      ·
        refine CW.exit (hE19 (.exit 2) nofun _ _ (hE18 (.exit 2) nofun _ _ (hX17 _ _ ?_)))
        refine hK15 _ _ ?_
        refine hK14 _ _ ?_
        refine CW.region ?_
        refine LR.v (Y.move rfl rfl) (Wd.u rfl) rfl rfl ?_
        refine LR.v (Y.addi rfl rfl rfl (by omega)) (Wd.u rfl) rfl rfl ?_
        refine LR.v (Y.assign rfl rfl) (Wd.u rfl) rfl rfl ?_
        refine LR.nil ?_
        refine QN.sub (hN11 (i + 1, u, n) _ ?_ ?_) ⟨rfl, rfl, rfl, (iv (by omega)), (iv (by omega)), trivial⟩
        · exact ⟨(by omega), ou, (by omega), by rw [← hn, pairN_miss (by omega) (unus_no hul (fun q h => hpast q (by omega) h))], (by omega), nx18, hlm1⟩
        · first | omega | (simp only; omega) | (simp; omega)
    ·
      have hi2 : i = xs.length := by omega
      rw [pairN_end (by omega)] at hn
      have hne : 1 ≤ xs.length + ys.length := by
        rcases Nat.eq_zero_or_pos (xs.length + ys.length) with h9 | h9
        · have h1 : xs = [] := List.eq_nil_of_length_eq_zero (by omega)
          have h2 : ys = [] := List.eq_nil_of_length_eq_zero (by omega)
          rw [h1] at hxs; rw [h2] at hys
          exact absurd ((splitL_ne hxs).1.trans (splitL_ne hys).1.symm) c15
        · exact h9
      refine CW.exit (hE12 (.exit 0) nofun _ _ (hE11 (.exit 0) nofun _ _ (hX10 _ _ ?_)))
      refine hK8 _ _ ?_
      refine CW.seq (fun K26 hK26 hE26 => ?_)
      refine CW.region ?_
      refine LR.v (Y.move rfl rfl) (Wd.u rfl) rfl rfl ?_
      refine LR.v (Y.muli rfl rfl rfl (by omega)) (Wd.u rfl) rfl rfl ?_
      refine LR.v (Y.move rfl rfl) (Wd.u rfl) rfl rfl ?_
      refine LR.v (Y.len ox.rd rfl Try.runUnderlying41 rfl) (Wd.u rfl) rfl rfl ?_
      refine LR.v (Y.move rfl rfl) (Wd.u rfl) rfl rfl ?_
      refine LR.v (Y.len oy.rd rfl Try.runUnderlying41 rfl) (Wd.u rfl) rfl rfl ?_
      refine LR.v (Y.addi rfl rfl rfl (by omega)) (Wd.u rfl) rfl rfl ?_
      refine LR.v (Y.quoi rfl rfl rfl (by omega)) (Wd.u rfl) rfl rfl ?_
      refine LR.v (Y.assign rfl rfl) (Wd.u rfl) rfl rfl ?_
      refine LR.nil ?_
      refine hK26 _ _ ?_
      refine CW.ret (hret .ret (.inr rfl) _ _ _ (res1 rfl rfl) ?_)
      exact ⟨by rw [scoreB, scoreL, if_neg c15, hxs, hys, pairN_comm, ← hn]; simp, hm0⟩

end Go.Proofs.Ytclhnkmkejijjaa.RenA
