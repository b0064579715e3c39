/-
  Bytes taken to lines, and lines put together.
-/
import Derived.Test.YtegfnfhdgbcjbaaLinD
import Derived.Test.YtegfnfhdgbcjbaaExt
namespace Go.Proofs.Ytegfnfhdgbcjbaa.LinL
open Go.Proofs.Ytegfnfhdgbcjbaa.E Go.RowKit Go.Proofs.Ytegfnfhdgbcjbaa.LinM Go.Proofs.Ytegfnfhdgbcjbaa.LinB Go.Proofs.Ytegfnfhdgbcjbaa.LinC Go.Proofs.Ytegfnfhdgbcjbaa.LinD
set_option maxRecDepth 20000
set_option linter.unusedVariables false
set_option linter.unusedSimpArgs false
set_option linter.unusedSectionVars false
set_option maxRecDepth 100000 in
theorem inf32 : Inf Try.prog 32 9 1 16 := ⟨Try.underlying32, _, _, rfl, rfl, rfl, rfl, rfl⟩

def splitL : List UInt8 → List UInt8 → List (List UInt8)
  | cur, [] => if cur = [] then [] else [cur]
  | cur, c :: r => if c = 10 then (cur ++ [c]) :: splitL [] r else splitL (cur ++ [c]) r
theorem splitL_flat : ∀ (b cur : List UInt8), (splitL cur b).flatten = cur ++ b
  | [], cur => by rw [splitL]; split <;> simp [*]
  | c :: r, cur => by
    rw [splitL]
    split
    · rw [List.flatten_cons, splitL_flat r []]; simp
    · rw [splitL_flat r]; simp
theorem splitL_none : ∀ (b cur : List UInt8), Lib.indexByte b 10 = -1 → splitL cur b = if cur ++ b = [] then [] else [cur ++ b]
  | [], cur, _ => by simp [splitL]
  | c :: r, cur, h => by
    rw [Lib.indexByte] at h
    have hc : ¬ c = 10 := by intro e; subst e; simp at h
    rw [splitL, if_neg hc]
    rw [if_neg (by simpa using hc)] at h
    have h2 : Lib.indexByte r 10 = -1 := by
      have := Lib.indexByte_ge r 10
      split at h
      · rename_i h1; simpa using h1
      · omega
    rw [splitL_none r _ h2]; simp
theorem splitL_some : ∀ (b cur : List UInt8) (i : Nat), Lib.indexByte b 10 = i → i < b.length ∧ splitL cur b = (cur ++ b.take (i + 1)) :: splitL [] (b.drop (i + 1))
  | [], cur, i, h => by rw [Lib.indexByte] at h; omega
  | c :: r, cur, i, h => by
    rw [Lib.indexByte] at h
    by_cases hc : c = 10
    · subst hc
      simp at h
      obtain rfl : i = 0 := by omega
      simp [splitL]
    · rw [if_neg (by simpa using hc)] at h
      have hge := Lib.indexByte_ge r 10
      split at h
      · omega
      · rename_i h1
        have h1' : Lib.indexByte r 10 ≠ -1 := by simpa using h1
        obtain ⟨j, hj⟩ : ∃ j : Nat, Lib.indexByte r 10 = j := ⟨(Lib.indexByte r 10).toNat, by omega⟩
        obtain rfl : i = j + 1 := by omega
        obtain ⟨g1, g2⟩ := splitL_some r (cur ++ [c]) j hj
        rw [splitL, if_neg hc]
        exact ⟨by simp; omega, by rw [g2]; simp⟩
theorem splitL_len : ∀ (b cur : List UInt8), (splitL cur b).length ≤ cur.length + b.length
  | [], cur => by rw [splitL]; cases cur <;> simp
  | c :: r, cur => by
    rw [splitL]
    split
    · have := splitL_len r []; simp at this ⊢; omega
    · have := splitL_len r (cur ++ [c]); simp at this ⊢; omega
theorem take_snoc {α : Type} (b : List α) (f i : Nat) (hf : f ≤ i) (hi : i < b.length) : (b.take (i + 1)).drop f = (b.take i).drop f ++ [b[i]] := by
  rw [List.take_succ_eq_append_getElem hi, List.drop_append_of_le_length (by simp; omega)]
theorem flatten_take (l : List (List UInt8)) (k : Nat) (h : k < l.length) : (l.take (k + 1)).flatten = (l.take k).flatten ++ l[k] := by
  rw [List.take_succ_eq_append_getElem h, List.flatten_append]; simp
theorem flatten_take_le (l : List (List UInt8)) (k : Nat) : (l.take k).flatten.length ≤ l.flatten.length := by
  have h : l.flatten = (l.take k).flatten ++ (l.drop k).flatten := by rw [← List.flatten_append, List.take_append_drop]
  rw [h, List.length_append]; omega

theorem indexByte_ct (v : Value) (b : List UInt8) (c : UInt8) (w0 : World) (H0 : Heap)
    (hv : RdT H0 fB 1 v b) :
    Ct Try.prog w0 57 #[v, .int .u8 c.toNat] H0 (fun r H2 => r = .int .i64 (Lib.indexByte b c) ∧ H2 = H0) := by
  refine Ct.enter (args := [v, .int .u8 c.toNat]) Try.func57 rfl rfl rfl ?_
  intro Q0 hret
  refine CW.seq (fun K1 hK1 hE1 => ?_)
  refine CW.region ?_
  refine LR.v (Y.assign rfl rfl) (Wd.u rfl) rfl rfl ?_
  refine LR.nil ?_
  refine hK1 _ _ ?_
  refine CW.seq (fun K2 hK2 hE2 => ?_)
  refine CW.region ?_
  refine LR.v (Y.move rfl rfl) (Wd.u rfl) rfl rfl ?_
  refine LR.v (Y.move rfl rfl) (Wd.u rfl) rfl rfl ?_
  refine LR.v (Y.indexByte hv rfl Try.func64 (by kernel_rfl) (by kernel_rfl) (by kernel_rfl) (by kernel_rfl) (rfl)) (Wd.u rfl) rfl rfl ?_
  refine LR.v (Y.assign rfl rfl) (Wd.u rfl) rfl rfl ?_
  refine LR.nil ?_
  refine hK2 _ _ ?_
  refine CW.ret (hret .ret (.inr rfl) _ _ _ (res1 rfl rfl) ?_)
  exact ⟨rfl, rfl⟩

theorem split_ct (v : Value) (b : List UInt8) (w0 : World) (H0 : Heap)
    (hv : RdT H0 fB 1 v b) (hl : b.length ≤ 1048576) :
    Ct Try.prog w0 39 #[v] H0 (fun r H2 => Own (fun b => H0.size ≤ b) 9 H2 fS 1 r (splitL [] b) ∧ Nw H0 H2) := by
  refine Ct.enter (args := [v]) Try.func39 rfl rfl rfl ?_
  intro Q0 hret
  replace hv := hv.lt
  refine CW.seq (fun K1 hK1 hE1 => ?_)
  refine CW.region ?_
  refine LR.v (Y.assign rfl rfl) (Wd.u rfl) rfl rfl ?_
  refine LR.nil ?_
  refine hK1 _ _ ?_
  refine CW.seq (fun K2 hK2 hE2 => ?_)
  refine CW.region ?_
  refine LR.v (Y.assign rfl rfl) (Wd.u rfl) rfl rfl ?_
  refine LR.nil ?_
  refine hK2 _ _ ?_
  refine CW.seq (fun K3 hK3 hE3 => ?_)
  refine CW.block (fun K4 hK4 hX4 hE4 => ?_)
  refine CW.loop (fun (s_ : (Value) × (List UInt8) × (Value) × (List (List UInt8))) => match s_ with | (v, r, vo, out) => [(0, v), (3, vo)])
    (fun (s_ : (Value) × (List UInt8) × (Value) × (List (List UInt8))) (H : Heap) => match s_ with | (v, r, vo, out) => Nw H0 H ∧ Rd (fun b => b < H0.size) H fB 1 v r ∧ Own (fun b => H0.size ≤ b) 9 H fS 1 vo out ∧ out ++ splitL [] r = splitL [] b ∧ r.length ≤ b.length ∧ out.length + r.length ≤ b.length)
    (fun (s_ : (Value) × (List UInt8) × (Value) × (List (List UInt8))) => match s_ with | (v, r, vo, out) => r.length) (v, b, .slice none 0 0, []) ⟨rfl, rfl, trivial⟩ ?_ ?_
  ·
    exact ⟨Nw.refl _, hv, Own.nil fS_len fS_one, rfl, by omega, by simp⟩
  rintro ⟨v, r, vo, out⟩ H1 hI1 K5 hN5 hE5
  obtain ⟨hs, hr, ho, hsp, hrl, hol⟩ := hI1
  have hzz := hs.size
  refine CW.seq (fun K6 hK6 hE6 => ?_)
  refine CW.seq (fun K7 hK7 hE7 => ?_)
  refine CW.region ?_
  refine LR.v (Y.move rfl rfl) (Wd.u rfl) rfl rfl ?_
  refine LR.v (Y.len hr rfl Try.runUnderlying22 rfl) (Wd.u rfl) rfl rfl ?_
  refine LR.v (Y.gtr rfl rfl rfl) (Wd.u rfl) rfl rfl ?_
  refine LR.nil ?_
  refine hK7 _ _ ?_
  refine CW.condp rfl (fun c7 => ?_) (fun c7 => ?_)
  ·
    refine CW.skip ?_
    refine hK6 _ _ ?_
    refine CW.block (fun K8 hK8 hX8 hE8 => ?_)
    refine CW.seq (fun K9 hK9 hE9 => ?_)
    refine CW.region ?_
    refine LR.v (Y.move rfl rfl) (Wd.u rfl) rfl rfl ?_
    -- call bytes.IndexByte
    refine LR.call rfl Try.call57 rfl (Wd.u rfl) rfl rfl (indexByte_ct _ r 10 w0 H1 hr.any) (fun v9 H9 r9 => ?_)
    obtain ⟨rfl, rfl⟩ := r9
    have hge := Lib.indexByte_ge r 10
    obtain ⟨n, hn, hnl, hn1, hsn⟩ : ∃ n : Nat, (if Lib.indexByte r 10 = -1 then (r.length : Int) else Lib.indexByte r 10 + 1) = n ∧ n ≤ r.length ∧ 1 ≤ n ∧ splitL [] r = r.take n :: splitL [] (r.drop n) := by
      by_cases hx : Lib.indexByte r 10 = -1
      · refine ⟨r.length, by rw [if_pos hx], by omega, by omega, ?_⟩
        rw [splitL_none r [] hx, if_neg (by intro e; simp at e; subst e; simp at c7)]
        simp [splitL]
      · obtain ⟨i, hi⟩ : ∃ i : Nat, Lib.indexByte r 10 = i := ⟨(Lib.indexByte r 10).toNat, by omega⟩
        obtain ⟨g1, g2⟩ := splitL_some r [] i hi
        exact ⟨i + 1, by rw [if_neg hx]; omega, by omega, by omega, by simpa using g2⟩
    refine LR.v (Y.addi rfl rfl rfl (by have := hnl; split at hn <;> omega)) (Wd.u rfl) rfl rfl ?_
    refine LR.v (Y.assign rfl rfl) (Wd.u rfl) rfl rfl ?_
    refine LR.nil ?_
    refine hK9 _ _ ?_
    refine CW.cut (fun (_ : Unit) => [(0, v), (3, vo), (4, .int .i64 n)])
      (fun (_ : Unit) (H : Heap) => H = H9) (fun K10 hK10 hE10 => ?_) ?_
    ·
      refine CW.seq (fun K11 hK11 hE11 => ?_)
      refine CW.region ?_
      refine LR.v (Y.move rfl rfl) (Wd.u rfl) rfl rfl ?_
      refine LR.v (Y.eql rfl rfl rfl) (Wd.u rfl) rfl rfl ?_
      refine LR.nil ?_
      refine hK11 _ _ ?_
      refine CW.condp rfl (fun c12 => ?_) (fun c12 => ?_)
      ·
        refine CW.region ?_
        refine LR.v (Y.move rfl rfl) (Wd.u rfl) rfl rfl ?_
        refine LR.v (Y.len hr rfl Try.runUnderlying22 rfl) (Wd.u rfl) rfl rfl ?_
        refine LR.v (Y.assign rfl rfl) (Wd.u rfl) rfl rfl ?_
        refine LR.nil ?_
        refine QN.sub (hK10 () _ ?_) ⟨rfl, rfl, (iv (by first | (rw [if_pos (by omega)] at hn; omega) | (rw [if_neg (by omega)] at hn; omega))), trivial⟩
        rfl
      ·
        refine CW.skip ?_
        refine QN.sub (hK10 () _ ?_) ⟨rfl, rfl, (iv (by first | (rw [if_pos (by omega)] at hn; omega) | (rw [if_neg (by omega)] at hn; omega))), trivial⟩
        rfl
    ·
      intro _ Hcutc12 hIcutc12
      obtain rfl := hIcutc12
      refine CW.seq (fun K12 hK12 hE12 => ?_)
      refine CW.region ?_
      refine LR.v (Y.move rfl rfl) (Wd.u rfl) rfl rfl ?_
      refine LR.v (Y.move rfl rfl) (Wd.u rfl) rfl rfl ?_
      refine LR.v (Y.move rfl rfl) (Wd.u rfl) rfl rfl ?_
      refine LR.e (g := fun v => v) (Y.slice hr (0) (n) rfl Try.runUnderlying22 Try.sizeOf5 rfl (.inl ⟨rfl, rfl⟩) (.inr ⟨_, _, _, rfl, rfl, by first | rfl | omega⟩) (by omega) (by omega)) (Wd.u rfl) rfl rfl (fun v18 rd18 => ?_)
      refine LR.v (Y.bstr rd18 rfl Try.underlying22 Try.underlying9 Try.underlying5 rfl) (Wd.u rfl) rfl rfl ?_
      refine LR.z (Z.lit _ ([(r.take n).drop 0]) rfl inf32 rfl rfl rfl (by decide) (by decide) fS_len fS_one (rfl)) (Wd.u rfl) rfl rfl (fun v20 H20 r20 => ?_)
      obtain ⟨ho20, hs20, -⟩ := r20
      replace hr := hr.nw hs20
      replace ho := ho.nw hs20
      replace hs := hs.tr hs20
      have hz20 := hs20.size
      refine LR.z (Z.append ho ho20.rd rfl inf32 rfl rfl (by simp; omega) (by simp; omega)) (Wd.u rfl) rfl rfl (fun v21 H21 r21 => ?_)
      obtain ⟨ho, hs21⟩ := r21
      replace hr := hr.up hs21 (fun b _ h1 h2 => by omega)
      replace hs := hs.trans hs21 (fun _ _ e => e) (fun b hb e => by omega)
      refine LR.v (Y.assign rfl rfl) (Wd.u rfl) rfl rfl ?_
      refine LR.nil ?_
      refine hK12 _ _ ?_
      refine CW.region ?_
      refine LR.v (Y.move rfl rfl) (Wd.u rfl) rfl rfl ?_
      refine LR.v (Y.move rfl rfl) (Wd.u rfl) rfl rfl ?_
      refine LR.e (g := fun v => v) (Y.slice hr (n) (_) rfl Try.runUnderlying22 Try.sizeOf5 rfl (.inr ⟨_, _, _, rfl, rfl, by first | rfl | omega⟩) (.inl ⟨rfl, rfl⟩) (by omega) (by omega)) (Wd.u rfl) rfl rfl (fun v24 rd24 => ?_)
      refine LR.v (Y.assign rfl rfl) (Wd.u rfl) rfl rfl ?_
      refine LR.nil ?_
      refine hK8 _ _ ?_
      refine QN.sub (hN5 (v24, r.drop n, v21, out ++ [(r.take n).drop 0]) _ ?_ ?_) ⟨rfl, rfl, trivial⟩
      · exact ⟨hs, by simpa using rd24, ho.imp (fun b _ e => by omega), by rw [← hsp, hsn]; simp, by simp; omega, by simp; omega⟩
      · show (r.drop n).length < r.length; rw [List.length_drop]; omega
  ·
    have hrn : r = [] := List.eq_nil_of_length_eq_zero (by omega)
    subst hrn
    simp only [splitL, if_true, List.append_nil] at hsp
    subst hsp
    refine CW.exit (hE6 (.exit 0) nofun _ _ (hE5 (.exit 0) nofun _ _ (hX4 _ _ ?_)))
    refine hK3 _ _ ?_
    refine CW.seq (fun K13 hK13 hE13 => ?_)
    refine CW.region ?_
    refine LR.v (Y.move rfl rfl) (Wd.u rfl) rfl rfl ?_
    refine LR.v (Y.assign rfl rfl) (Wd.u rfl) rfl rfl ?_
    refine LR.nil ?_
    refine hK13 _ _ ?_
    refine CW.ret (hret .ret (.inr rfl) _ _ _ (res1 rfl rfl) ?_)
    exact ⟨ho, hs⟩

end Go.Proofs.Ytegfnfhdgbcjbaa.LinL
