/-
  What is made is applied; the contract of DeltaBack.
-/
import Derived.Test.YtjkjdpainenofaaDelI
namespace Go.Proofs.Ytjkjdpainenofaa.DelJ
open Go.Proofs.Ytjkjdpainenofaa.E Go.RowKit Go.Proofs.Ytjkjdpainenofaa.Num Go.Proofs.Ytjkjdpainenofaa.DelA Go.Proofs.Ytjkjdpainenofaa.DelB Go.Proofs.Ytjkjdpainenofaa.DelC Go.Proofs.Ytjkjdpainenofaa.DelD Go.Proofs.Ytjkjdpainenofaa.DelE Go.Proofs.Ytjkjdpainenofaa.DelF Go.Proofs.Ytjkjdpainenofaa.DelG Go.Proofs.Ytjkjdpainenofaa.DelH Go.Proofs.Ytjkjdpainenofaa.DelI
set_option linter.unusedVariables false
set_option linter.unusedSimpArgs false
set_option linter.unusedSectionVars false
theorem inf22 : Inf Try.prog 22 5 1 1 := ⟨Try.underlying22, _, _, rfl, rfl, rfl, rfl, rfl⟩

/-! a delta's steps, done -/
theorem tk4 (n : Nat) (r : List UInt8) : (be32 n ++ r).take 4 = be32 n := by rw [← be32_len n]; exact List.take_left
theorem slc4 (a n : Nat) (r : List UInt8) : slc (be32 a ++ (be32 n ++ r)) 4 4 = be32 n := by
  rw [slc, ← be32_len a, List.drop_left, be32_len, tk4]
theorem dr8 (a n : Nat) (r : List UInt8) : (be32 a ++ (be32 n ++ r)).drop 8 = r := by
  rw [show 8 = 4 + 4 from rfl, ← List.drop_drop, ← be32_len a, List.drop_left, be32_len, ← be32_len n, List.drop_left]
theorem apf_cp {base out r : List UInt8} {size a n : Nat} (ha : a < 4294967296) (hn : n < 4294967296) (h : ¬ bad1 base size out a n) : apf base size out (cp a n ++ r) = apf base size (out ++ slc base a n) r := by
  have e : cp a n ++ r = 1 :: (be32 a ++ (be32 n ++ r)) := by simp [cp]
  have hl : ¬ (be32 a ++ (be32 n ++ r)).length < 8 := by simp [be32_len]; omega
  rw [e, apf_c3 hl (by rw [tk4, slc4, bev_be32 a ha, bev_be32 n hn]; exact h), tk4, slc4, bev_be32 a ha, bev_be32 n hn, dr8]
theorem apf_in {base out m r : List UInt8} {size : Nat} (hn : m.length < 4294967296) (h : ¬ (m.length = 0 ∨ m.length > size - out.length)) : apf base size out ((2 :: be32 m.length ++ m) ++ r) = apf base size (out ++ m) r := by
  have e : (2 :: be32 m.length ++ m) ++ r = 2 :: (be32 m.length ++ (m ++ r)) := by simp
  have hl : ¬ (be32 m.length ++ (m ++ r)).length < 4 := by simp [be32_len]
  have h2 : (be32 m.length ++ (m ++ r)).length = 4 + (m.length + r.length) := by simp [be32_len]
  have hs : slc (be32 m.length ++ (m ++ r)) 4 m.length = m := by rw [slc, ← be32_len m.length, List.drop_left, List.take_left]
  rw [e, apf_i4 hl (by rw [tk4, bev_be32 _ hn, h2]; omega) (by rw [tk4, bev_be32 _ hn]; exact h), tk4, bev_be32 _ hn, hs, ← List.drop_drop]
  congr 1
  rw [← be32_len m.length, List.drop_left, List.drop_left]
theorem getD_ext {a b : List UInt8} (hl : a.length = b.length) (h : ∀ i, i < a.length → a.getD i 0 = b.getD i 0) : a = b := by
  apply List.ext_getElem hl
  intro i h1 h2
  have := h i h1
  simpa [List.getD, h1, h2] using this
theorem front_eq {b t : List UInt8} {p : Nat} (hp : p ≤ min b.length t.length) (h : ∀ i, i < p → fr b t i = true) : slc b 0 p = t.take p := by
  apply getD_ext
  · simp [slc]; omega
  · intro i hi
    have hi' : i < p := by simp [slc] at hi; omega
    have := h i hi'
    simp only [fr, decide_eq_true_eq] at this
    simp only [slc, List.drop_zero, List.getD, List.getElem?_take, hi', if_true]
    exact this
theorem back_eq {b t : List UInt8} {p s : Nat} (hs : s ≤ min b.length t.length - p) (h : ∀ i, i < s → bk b t i = true) : slc b (b.length - s) s = t.drop (t.length - s) := by
  apply getD_ext
  · simp [slc]; omega
  · intro i hi
    have hi' : i < s := by simp [slc] at hi; omega
    have := h (s - 1 - i) (by omega)
    simp only [bk, decide_eq_true_eq] at this
    rw [show b.length - 1 - (s - 1 - i) = b.length - s + i by omega, show t.length - 1 - (s - 1 - i) = t.length - s + i by omega] at this
    simp only [slc, List.getD, List.getElem?_take, hi', if_true, List.getElem?_drop]
    exact this
theorem split3 {t : List UInt8} {p s : Nat} (h : p + s ≤ t.length) : t.take p ++ mid t p s ++ t.drop (t.length - s) = t := by
  have e : t.take p ++ mid t p s = t.take (t.length - s) := by
    have : t.take p = (t.take (t.length - s)).take p := by rw [List.take_take, Nat.min_eq_left (by omega)]
    rw [this, mid, List.take_append_drop]
  rw [e, List.take_append_drop]
/-- the delta that is made makes the target -/
theorem apt_mk {b t : List UInt8} {p s : Nat} (hE : Edg b t p s) (hb : b.length ≤ 1048576) (ht : t.length ≤ 1048576) : apt b (mkL b t p s) = (t, 0) := by
  obtain ⟨⟨hp0, hp1, _⟩, ⟨hs0, hs1, _⟩⟩ := hE
  have hps : p + s ≤ t.length := by omega
  have hpb : p + s ≤ b.length := by omega
  have e1 := front_eq hp0 hp1
  have e2 := back_eq (p := p) hs0 hs1
  have e3 := split3 hps
  have hml : (mid t p s).length = t.length - s - p := by simp [mid]
  generalize hA : (if 0 < p then cp 0 p else []) = A
  generalize hM : (if 0 < (mid t p s).length then 2 :: be32 (mid t p s).length ++ mid t p s else []) = M
  generalize hC : (if 0 < s then cp (b.length - s) s else []) = C
  have e : mkL b t p s = be32 b.length ++ (be32 t.length ++ (A ++ (M ++ C))) := by rw [mkL, hA, hM, hC]; simp
  have hl : ¬ (be32 b.length ++ (be32 t.length ++ (A ++ (M ++ C)))).length < 8 := by simp [be32_len]; omega
  rw [e, apt_go hl (by rw [tk4, bev_be32 _ (by omega)]), slc4, bev_be32 _ (by omega), dr8]
  have sA : apf b t.length [] (A ++ (M ++ C)) = apf b t.length (t.take p) (M ++ C) := by
    by_cases h : 0 < p
    · rw [if_pos h] at hA
      rw [← hA, apf_cp (by omega) (by omega) (by unfold bad1; simp; omega), e1, List.nil_append]
    · rw [if_neg h] at hA
      have : p = 0 := by omega
      subst this
      rw [← hA]; rfl
  have hpl : (t.take p).length = p := by simp; omega
  have sM : apf b t.length (t.take p) (M ++ C) = apf b t.length (t.take p ++ mid t p s) C := by
    by_cases h : 0 < (mid t p s).length
    · rw [if_pos h] at hM
      rw [← hM, apf_in (by omega) (by rw [hpl]; omega)]
    · rw [if_neg h] at hM
      have : mid t p s = [] := List.eq_nil_of_length_eq_zero (by omega)
      rw [← hM, this]; simp
  have hpm : (t.take p ++ mid t p s).length = t.length - s := by rw [List.length_append, hpl, hml]; omega
  have sC : apf b t.length (t.take p ++ mid t p s) C = (t, 0) := by
    by_cases h : 0 < s
    · rw [if_pos h] at hC
      rw [← hC, ← List.append_nil (cp (b.length - s) s), apf_cp (by omega) (by omega) (by unfold bad1; rw [hpm]; omega), e2, e3, apf_nil, if_pos rfl]
    · rw [if_neg h] at hC
      have : s = 0 := by omega
      subst this
      rw [← hC, apf_nil, if_pos (by rw [hpm]; omega)]
      simp at e3
      rw [e3]
  rw [sA, sM, sC]
theorem edg_same {b : List UInt8} {p s : Nat} (hE : Edg b b p s) : p = b.length ∧ s = 0 := by
  obtain ⟨⟨hp0, hp1, hp2⟩, ⟨hs0, _, _⟩⟩ := hE
  have : p = b.length := by
    apply Decidable.byContradiction
    intro hne
    have := hp2 (by omega)
    simp [fr] at this
  subst this
  exact ⟨rfl, by simp at hs0; omega⟩
theorem same_len {b : List UInt8} {p s : Nat} (hE : Edg b b p s) (h : 0 < b.length) : (mkL b b p s).length = 17 := by
  obtain ⟨rfl, rfl⟩ := edg_same hE
  simp [mkL, mid, cp, be32_len, h]
theorem apt_other {b t x : List UInt8} {p s : Nat} (hb : b.length ≤ 1048576) (hx : x.length ≠ b.length) : apt x (mkL b t p s) = ([], 1) := by
  have e : ∃ r, mkL b t p s = be32 b.length ++ (be32 t.length ++ r) := ⟨_, by rw [mkL]; simp only [List.append_assoc]; rfl⟩
  obtain ⟨r, e⟩ := e
  rw [e]
  exact apt_arg (by simp [be32_len]; omega) (by rw [tk4, bev_be32 _ (by omega)]; omega)

theorem be32_1 (n : Nat) (h : n < 65536) : be32 n = [0, 0, UInt8.ofNat (n / 2 ^ 8), UInt8.ofNat n] := by
  have e1 : n / 2 ^ 24 = 0 := by omega
  have e2 : UInt8.ofNat (n / 2 ^ 16) = 0 := by rw [show n / 2 ^ 16 = 0 by omega]; rfl
  rw [be32, e1, e2]; rfl

set_option maxHeartbeats 4000000 in
theorem deltaBack_ct (v0 v3 : Value) (fa ta : Int) (bs mi : List UInt8) (w0 : World) (H0 : Heap)
    (hb : RdT H0 fB 1 v0 bs) (hm : RdT H0 fB 1 v3 mi) (hfa : -9223372036854775808 ≤ fa ∧ fa ≤ 9223372036854775807) (hta : -9223372036854775808 ≤ ta ∧ ta ≤ 9223372036854775807) :
    Ct Try.prog w0 5 #[v0, .int .i64 fa, .int .i64 ta, v3] H0 (fun r H2 => r = .bool true ∧ Nw H0 H2) := by
  refine Ct.enter (args := [v0, .int .i64 fa, .int .i64 ta, v3]) Try.func5 rfl rfl rfl ?_
  intro Q0 hret
  have hm0 : Nw H0 H0 := Mo.refl _ _
  replace hb := hb.bnd
  have bf_hb := Rd.bf hb
  replace hm := hm.bnd
  have bf_hm := Rd.bf hm
  refine CW.seq (fun K1 hK1 hE1 => ?_)
  refine CW.region ?_
  refine LR.v (Y.assign rfl rfl) (Wd.u rfl) rfl rfl ?_
  refine LR.nil ?_
  refine hK1 _ _ ?_
  refine CW.seq (fun K2 hK2 hE2 => ?_)
  refine CW.seq (fun K3 hK3 hE3 => ?_)
  refine CW.region ?_
  -- call selvage/selvagelaw6.known
  refine LR.call rfl Try.call7 rfl (Wd.u rfl) rfl rfl (known_ct w0 _) (fun v18 H18 r18 => ?_)
  obtain ⟨rfl, hs18⟩ := r18
  replace hb := hb.nw hs18
  replace hm := hm.nw hs18
  replace hm0 := hm0.tr hs18
  have hz1 := hs18.size
  refine LR.v (Y.not rfl rfl) (Wd.u rfl) rfl rfl ?_
  refine LR.nil ?_
  refine hK3 _ _ ?_
  refine CW.cond_f rfl ?_
  refine CW.skip ?_
  refine hK2 _ _ ?_
  refine CW.seq (fun K4 hK4 hE4 => ?_)
  refine CW.seq (fun K5 hK5 hE5 => ?_)
  refine CW.region ?_
  refine LR.v (Y.move rfl rfl) (Wd.u rfl) rfl rfl ?_
  refine LR.v (Y.len hb rfl Try.runUnderlying22 rfl) (Wd.u rfl) rfl rfl ?_
  refine LR.v (Y.gtr rfl rfl rfl) (Wd.u rfl) rfl rfl ?_
  refine LR.v (Y.move rfl rfl) (Wd.u rfl) rfl rfl ?_
  refine LR.splitp (d := 23) rfl (fun g23 => ?_) (fun g23 => ?_)
  ·
    refine LR.gs rfl rfl rfl rfl rfl rfl ?_
    refine LR.gs rfl rfl rfl rfl rfl rfl ?_
    refine LR.gs rfl rfl rfl rfl rfl rfl ?_
    refine LR.v (Y.pick_t rfl rfl rfl) (Wd.u rfl) rfl rfl ?_
    refine LR.nil ?_
    refine hK5 _ _ ?_
    refine CW.cond_t rfl ?_
    refine CW.seq (fun K6 hK6 hE6 => ?_)
    refine CW.region ?_
    refine LR.v (Y.assign rfl rfl) (Wd.u rfl) rfl rfl ?_
    refine LR.nil ?_
    refine hK6 _ _ ?_
    refine CW.ret (hE4 .ret nofun _ _ (hret .ret (.inr rfl) _ _ _ (res1 rfl rfl) ?_))
    exact ⟨rfl, hm0⟩
  ·
    refine LR.v (Y.move rfl rfl) (Wd.g rfl rfl rfl) rfl rfl ?_
    refine LR.v (Y.len hm rfl Try.runUnderlying22 rfl) (Wd.g rfl rfl rfl) rfl rfl ?_
    refine LR.v (Y.gtr rfl rfl rfl) (Wd.g rfl rfl rfl) rfl rfl ?_
    refine LR.v (Y.pick_f rfl rfl rfl) (Wd.u rfl) rfl rfl ?_
    refine LR.nil ?_
    refine hK5 _ _ ?_
    refine CW.condp rfl (fun c27 => ?_) (fun c27 => ?_)
    ·
      refine CW.seq (fun K7 hK7 hE7 => ?_)
      refine CW.region ?_
      refine LR.v (Y.assign rfl rfl) (Wd.u rfl) rfl rfl ?_
      refine LR.nil ?_
      refine hK7 _ _ ?_
      refine CW.ret (hE4 .ret nofun _ _ (hret .ret (.inr rfl) _ _ _ (res1 rfl rfl) ?_))
      exact ⟨rfl, hm0⟩
    ·
      refine CW.skip ?_
      refine hK4 _ _ ?_
      refine CW.seq (fun K8 hK8 hE8 => ?_)
      refine CW.region ?_
      refine LR.v (Y.move rfl rfl) (Wd.u rfl) rfl rfl ?_
      refine LR.v (Y.move rfl rfl) (Wd.u rfl) rfl rfl ?_
      refine LR.v (Y.len hb rfl Try.runUnderlying22 rfl) (Wd.u rfl) rfl rfl ?_
      refine LR.v (Y.addi rfl rfl rfl (by omega)) (Wd.u rfl) rfl rfl ?_
      -- call selvage/selvagelaw6.within
      refine LR.call rfl Try.call12 rfl (Wd.u rfl) rfl rfl (within_ct fa _ w0 _ (by omega) hfa) (fun v32 H32 r32 => ?_)
      obtain ⟨i, rfl, hi, hs32⟩ := r32
      replace hb := hb.nw hs32
      replace hm := hm.nw hs32
      replace hm0 := hm0.tr hs32
      have hz2 := hs32.size
      refine LR.v (Y.move rfl rfl) (Wd.u rfl) rfl rfl ?_
      refine LR.v (Y.move rfl rfl) (Wd.u rfl) rfl rfl ?_
      refine LR.v (Y.len hb rfl Try.runUnderlying22 rfl) (Wd.u rfl) rfl rfl ?_
      refine LR.v (Y.addi rfl rfl rfl (by omega)) (Wd.u rfl) rfl rfl ?_
      -- call selvage/selvagelaw6.within
      refine LR.call rfl Try.call12 rfl (Wd.u rfl) rfl rfl (within_ct ta _ w0 _ (by omega) hta) (fun v37 H37 r37 => ?_)
      obtain ⟨k, rfl, hk, hs37⟩ := r37
      replace hb := hb.nw hs37
      replace hm := hm.nw hs37
      replace hm0 := hm0.tr hs37
      have hz3 := hs37.size
      refine LR.v (Y.assign rfl rfl) (Wd.u rfl) rfl rfl ?_
      refine LR.v (Y.assign rfl rfl) (Wd.u rfl) rfl rfl ?_
      refine LR.nil ?_
      refine hK8 _ _ ?_
      refine CW.seq (fun K9 hK9 hE9 => ?_)
      refine CW.region_any (fun Hq => Nw H37 Hq) [] rfl ?_
      have hq6 : Nw H37 H37 := Mo.refl _ _
      refine LH.take 1 (by kernel_rfl) rfl (by kernel_rfl) (by kernel_rfl) (by kernel_rfl) (fun Hq hq => Y.move rfl rfl) (Wd.u rfl) rfl rfl hq6 ?_
      refine LH.take 2 (by kernel_rfl) rfl (by kernel_rfl) (by kernel_rfl) (by kernel_rfl) (fun Hq hq => Y.move rfl rfl) (Wd.u rfl) rfl rfl hq6 ?_
      refine LH.e (g := fun v => v) 3 (by kernel_rfl) rfl (by kernel_rfl) (by kernel_rfl) (by kernel_rfl) (Y.slice hb (0) (i) rfl Try.runUnderlying22 Try.sizeOf5 rfl (.inl ⟨rfl, rfl⟩) (.inr ⟨_, _, _, rfl, rfl, by first | rfl | omega⟩) (by omega) (by omega)) (Wd.u rfl) rfl rfl hq6 (fun v41 rd41 => ?_)
      have bf_rd41 := bf_hb
      refine LH.take 5 (by kernel_rfl) rfl (by kernel_rfl) (by kernel_rfl) (by kernel_rfl) (fun Hq hq => Y.move rfl rfl) (Wd.u rfl) rfl rfl hq6 ?_
      refine LH.take 7 (by kernel_rfl) rfl (by kernel_rfl) (by kernel_rfl) (by kernel_rfl) (fun Hq hq => Y.move rfl rfl) (Wd.u rfl) rfl rfl hq6 ?_
      refine LH.take 8 (by kernel_rfl) rfl (by kernel_rfl) (by kernel_rfl) (by kernel_rfl) (fun Hq hq => Y.move rfl rfl) (Wd.u rfl) rfl rfl hq6 ?_
      refine LH.e (g := fun v => v) 9 (by kernel_rfl) rfl (by kernel_rfl) (by kernel_rfl) (by kernel_rfl) (Y.slice hb (k) (_) rfl Try.runUnderlying22 Try.sizeOf5 rfl (.inr ⟨_, _, _, rfl, rfl, by first | rfl | omega⟩) (.inl ⟨rfl, rfl⟩) (by omega) (by omega)) (Wd.u rfl) rfl rfl hq6 (fun v47 rd47 => ?_)
      have bf_rd47 := bf_hb
      refine LH.one (i := 0) (by kernel_rfl) ?_
      refine LO.z rfl (Z.litw _ (([] : List UInt8)) rfl inf22 rfl rfl rfl (by decide) (by decide) fB_len fB_one (rfl)) (Wd.u rfl) rfl rfl (fun v38 H38 r38 => ?_)
      obtain ⟨ow38, hs38, ob38, hH38⟩ := r38
      have hzs38 : H38.size = H37.size + 1 := by rw [hH38]; simp
      have df1 := (DF.new (bf_hb.mono hm0.size) : DF _ (H37.size + 1))
      have df2 := (DF.new (bf_hm.mono hm0.size) : DF _ (H37.size + 1))
      have df3 := (DF.new (bf_rd41.mono hm0.size) : DF _ (H37.size + 1))
      have df4 := (DF.new (bf_rd47.mono hm0.size) : DF _ (H37.size + 1))
      have nx5 : Nx 0 H0.size (H37.size + 1) := Nx.new hm0.size
      have nx6 : Nx 0 H37.size (H37.size + 1) := Nx.new hq6.size
      replace hb := hb.nw hs38
      replace hm := hm.nw hs38
      replace rd41 := rd41.nw hs38
      replace rd47 := rd47.nw hs38
      replace hm0 := hm0.tr hs38
      replace hq6 := hq6.tr hs38
      have hz4 := hs38.size
      refine ⟨.inr hq6, LH.narrow (SH2 := fun Hq => Mo (Ms [(H37.size + 1)]) H38 Hq) (fun Hq hq => (Mo.trL (ks := []) (hq6.mdn []) hq (MIL.cons (MI.app MI.z (nx6) (Nat.le_refl _)) MIL.nil)).nil) ?_⟩
      have hq6 : Mo (Ms [(H37.size + 1)]) H38 H38 := Mo.refl _ _
      have nx7 := Nx.refl (H37.size + 1) H38.size
      refine LH.one (i := 4) (by kernel_rfl) ?_
      refine LO.z rfl (Z.apnd ow38 rd41 rfl inf22 rfl rfl (by simp only [List.length_append, List.length_drop, List.length_take, List.length_nil]; omega) (by simp only [List.length_append, List.length_drop, List.length_take, List.length_nil]; omega)) (Wd.u rfl) rfl rfl (fun v42 H42 r42 => ?_)
      obtain ⟨k42, ow42, hk42, hs42⟩ := r42
      replace hk42 : Nx (H37.size + 1) H38.size k42 := hk42
      replace hs42 := hs42.md
      have df8 := DF.app (df1) (bf_hb.mono hm0.size) hk42
      have df9 := DF.app (df2) (bf_hm.mono hm0.size) hk42
      have df10 := DF.app (df3) (bf_rd41.mono hm0.size) hk42
      have df11 := DF.app (df4) (bf_rd47.mono hm0.size) hk42
      have nx12 : Nx 0 H0.size k42 := Nx.tr (nx5) hk42 hm0.size
      have nx13 : Nx (H37.size + 1) H38.size k42 := Nx.tr (nx7) hk42 hq6.size
      replace hb := hb.upL hs42 (DFL.cons df1 DFL.nil)
      replace hm := hm.upL hs42 (DFL.cons df2 DFL.nil)
      replace rd41 := rd41.upL hs42 (DFL.cons df3 DFL.nil)
      replace rd47 := rd47.upL hs42 (DFL.cons df4 DFL.nil)
      replace hm0 := (Mo.trL (ks := []) (hm0.mdn []) hs42 (MIL.cons (MI.app MI.z (nx5) (Nat.le_refl _)) MIL.nil)).nil
      replace hq6 := hq6.trL hs42 (MIL.cons (MI.app (MI.root (by simp)) (nx7) (Nat.le_refl _)) MIL.nil)
      have hz5 := hs42.size
      have hle_ow42 := ow42.le
      refine ⟨.inr hq6, LH.narrow (SH2 := fun Hq => Mo (Ms [k42]) H42 Hq) (fun Hq hq => hq6.trL hq (MIL.cons (MI.app (MI.root (by simp)) (nx13) (Nat.le_refl _)) MIL.nil)) ?_⟩
      have hq6 : Mo (Ms [k42]) H42 H42 := Mo.refl _ _
      have nx14 := Nx.refl k42 H42.size
      refine LH.one (i := 6) (by kernel_rfl) ?_
      refine LO.z rfl (Z.apnd ow42 hm rfl inf22 rfl rfl (by simp only [List.length_append, List.length_drop, List.length_take, List.length_nil]; omega) (by simp only [List.length_append, List.length_drop, List.length_take, List.length_nil]; omega)) (Wd.u rfl) rfl rfl (fun v44 H44 r44 => ?_)
      obtain ⟨k44, ow44, hk44, hs44⟩ := r44
      replace hk44 : Nx k42 H42.size k44 := hk44
      replace hs44 := hs44.md
      have df15 := DF.app (df8) (bf_hb.mono hm0.size) hk44
      have df16 := DF.app (df9) (bf_hm.mono hm0.size) hk44
      have df17 := DF.app (df10) (bf_rd41.mono hm0.size) hk44
      have df18 := DF.app (df11) (bf_rd47.mono hm0.size) hk44
      have nx19 : Nx 0 H0.size k44 := Nx.tr (nx12) hk44 hm0.size
      have nx20 : Nx k42 H42.size k44 := Nx.tr (nx14) hk44 hq6.size
      replace hb := hb.upL hs44 (DFL.cons df8 DFL.nil)
      replace hm := hm.upL hs44 (DFL.cons df9 DFL.nil)
      replace rd41 := rd41.upL hs44 (DFL.cons df10 DFL.nil)
      replace rd47 := rd47.upL hs44 (DFL.cons df11 DFL.nil)
      replace hm0 := (Mo.trL (ks := []) (hm0.mdn []) hs44 (MIL.cons (MI.app MI.z (nx12) (Nat.le_refl _)) MIL.nil)).nil
      replace hq6 := hq6.trL hs44 (MIL.cons (MI.app (MI.root (by simp)) (nx14) (Nat.le_refl _)) MIL.nil)
      have hz6 := hs44.size
      have hle_ow44 := ow44.le
      refine ⟨.inr hq6, LH.narrow (SH2 := fun Hq => Mo (Ms [k44]) H44 Hq) (fun Hq hq => hq6.trL hq (MIL.cons (MI.app (MI.root (by simp)) (nx20) (Nat.le_refl _)) MIL.nil)) ?_⟩
      have hq6 : Mo (Ms [k44]) H44 H44 := Mo.refl _ _
      have nx21 := Nx.refl k44 H44.size
      refine LH.one (i := 10) (by kernel_rfl) ?_
      refine LO.z rfl (Z.apnd ow44 rd47 rfl inf22 rfl rfl (by simp only [List.length_append, List.length_drop, List.length_take, List.length_nil]; omega) (by simp only [List.length_append, List.length_drop, List.length_take, List.length_nil]; omega)) (Wd.u rfl) rfl rfl (fun v48 H48 r48 => ?_)
      obtain ⟨k48, owt, hk48, hs48⟩ := r48
      replace hk48 : Nx k44 H44.size k48 := hk48
      replace hs48 := hs48.md
      have df22 := DF.app (df15) (bf_hb.mono hm0.size) hk48
      have df23 := DF.app (df16) (bf_hm.mono hm0.size) hk48
      have df24 := DF.app (df17) (bf_rd41.mono hm0.size) hk48
      have df25 := DF.app (df18) (bf_rd47.mono hm0.size) hk48
      have nx26 : Nx 0 H0.size k48 := Nx.tr (nx19) hk48 hm0.size
      have nx27 : Nx k44 H44.size k48 := Nx.tr (nx21) hk48 hq6.size
      replace hb := hb.upL hs48 (DFL.cons df15 DFL.nil)
      replace hm := hm.upL hs48 (DFL.cons df16 DFL.nil)
      replace rd41 := rd41.upL hs48 (DFL.cons df17 DFL.nil)
      replace rd47 := rd47.upL hs48 (DFL.cons df18 DFL.nil)
      replace hm0 := (Mo.trL (ks := []) (hm0.mdn []) hs48 (MIL.cons (MI.app MI.z (nx19) (Nat.le_refl _)) MIL.nil)).nil
      replace hq6 := hq6.trL hs48 (MIL.cons (MI.app (MI.root (by simp)) (nx21) (Nat.le_refl _)) MIL.nil)
      have hz7 := hs48.size
      have hle_owt := owt.le
      simp only [List.nil_append, List.drop_zero, List.take_length] at owt
      obtain ⟨tg, htg⟩ : ∃ tg, bs.take i ++ mi ++ bs.drop k = tg := ⟨_, rfl⟩
      rw [htg] at owt
      have htl : tg.length ≤ 15000 := by rw [← htg]; simp; omega
      refine ⟨.inr hq6, LH.narrow (SH2 := fun Hq => Mo (Ms [k48]) H48 Hq) (fun Hq hq => hq6.trL hq (MIL.cons (MI.app (MI.root (by simp)) (nx27) (Nat.le_refl _)) MIL.nil)) ?_⟩
      have hq6 : Mo (Ms [k48]) H48 H48 := Mo.refl _ _
      have nx28 := Nx.refl k48 H48.size
      refine LH.take 11 (by kernel_rfl) rfl (by kernel_rfl) (by kernel_rfl) (by kernel_rfl) (fun Hq hq => Y.assign rfl rfl) (Wd.u rfl) rfl rfl hq6 ?_
      refine LH.done (by kernel_rfl) ?_
      refine hK9 _ _ ?_
      refine CW.seq (fun K10 hK10 hE10 => ?_)
      refine CW.region ?_
      refine LR.v (Y.move rfl rfl) (Wd.u rfl) rfl rfl ?_
      refine LR.v (Y.move rfl rfl) (Wd.u rfl) rfl rfl ?_
      -- call selvage/delta.Make
      refine LR.call rfl Try.call10 rfl (Wd.u rfl) rfl rfl (make_ct _ _ bs tg w0 _ hb.any owt.rd.any (by omega) (by omega)) (fun v51 H51 r51 => ?_)
      obtain ⟨v51, kd, p51, s51, rfl, hE, owd, hk51, hs51⟩ := r51
      have df29 := DF.app (DF.z) (bf_hb.mono hm0.size) hk51
      have df30 := DF.app (DF.z) (bf_hm.mono hm0.size) hk51
      have dj31 : Dj k48 kd := Dj.app (Dj.z) owt.le hk51
      have nx32 : Nx 0 H0.size kd := Nx.tr (Nx.refl 0 _) hk51 hm0.size
      replace hb := hb.nw hs51
      replace hm := hm.nw hs51
      replace owt := owt.nw hs51
      replace hm0 := hm0.tr hs51
      have hz8 := hs51.size
      have hle_owd := owd.le
      obtain ⟨hn8, hn31⟩ := mkL_len bs tg p51 s51
      have hap := apt_mk hE (by omega) (by omega)
      have hao := fun (x : List UInt8) (h : x.length ≠ bs.length) => apt_other (b := bs) (t := tg) (x := x) (p := p51) (s := s51) (by omega) h
      generalize mkL bs tg p51 s51 = X0 at owd hn8 hn31 hap hao
      refine LR.v (Y.assign rfl rfl) (Wd.u rfl) rfl rfl ?_
      refine LR.nil ?_
      refine hK10 _ _ ?_
      refine CW.seq (fun K11 hK11 hE11 => ?_)
      refine CW.region ?_
      refine LR.v (Y.move rfl rfl) (Wd.u rfl) rfl rfl ?_
      refine LR.v (Y.move rfl rfl) (Wd.u rfl) rfl rfl ?_
      -- call selvage/delta.Apply
      refine LR.call rfl Try.call8 rfl (Wd.u rfl) rfl rfl (apply_ct _ _ bs X0 w0 _ hb.any owd.rd.any (by omega) (by omega)) (fun v55 H55 r55 => ?_)
      obtain ⟨v55, ka, xa, ea, rfl, hqa, hk55, hxa, hs55⟩ := r55
      have df33 := DF.app (DF.z) (bf_hb.mono hm0.size) hk55
      have df34 := DF.app (DF.z) (bf_hm.mono hm0.size) hk55
      have dj35 : Dj k48 ka := Dj.app (Dj.z) owt.le hk55
      have dj36 : Dj kd ka := Dj.app (Dj.z) owd.le hk55
      have nx37 : Nx 0 H0.size ka := Nx.tr (Nx.refl 0 _) hk55 hm0.size
      replace hb := hb.nw hs55
      replace hm := hm.nw hs55
      replace owt := owt.nw hs55
      replace owd := owd.nw hs55
      replace hm0 := hm0.tr hs55
      have hz9 := hs55.size
      have hle_hqa := hqa.le
      obtain ⟨rfl, rfl⟩ := Prod.mk.inj (hap.symm.trans hxa)
      refine LR.v (Y.move rfl rfl) (Wd.u rfl) rfl rfl ?_
      refine LR.v (Y.extract rfl rfl rfl) (Wd.u rfl) rfl rfl ?_
      refine LR.v (Y.extract rfl rfl rfl) (Wd.u rfl) rfl rfl ?_
      refine LR.v (Y.assign rfl rfl) (Wd.u rfl) rfl rfl ?_
      refine LR.v (Y.assign rfl rfl) (Wd.u rfl) rfl rfl ?_
      refine LR.nil ?_
      refine hK11 _ _ ?_
      refine CW.seq (fun K12 hK12 hE12 => ?_)
      refine CW.seq (fun K13 hK13 hE13 => ?_)
      refine CW.region ?_
      refine LR.v (Y.move rfl rfl) (Wd.u rfl) rfl rfl ?_
      refine LR.v ((Y.neq rfl rfl rfl).isF (fun h => h rfl)) (Wd.u rfl) rfl rfl ?_
      refine LR.v (Y.move rfl rfl) (Wd.u rfl) rfl rfl ?_
      refine LR.v (Y.move rfl rfl) (Wd.g rfl rfl rfl) rfl rfl ?_
      refine LR.v (Y.bstr hqa.rd rfl Try.underlying22 Try.underlying9 Try.underlying5 rfl) (Wd.g rfl rfl rfl) rfl rfl ?_
      refine LR.v (Y.move rfl rfl) (Wd.g rfl rfl rfl) rfl rfl ?_
      refine LR.v (Y.bstr owt.rd rfl Try.underlying22 Try.underlying9 Try.underlying5 rfl) (Wd.g rfl rfl rfl) rfl rfl ?_
      refine LR.v ((Y.sneq rfl rfl rfl).isF (fun h => h rfl)) (Wd.g rfl rfl rfl) rfl rfl ?_
      refine LR.v (Y.pick_f rfl rfl rfl) (Wd.u rfl) rfl rfl ?_
      refine LR.v (Y.move rfl rfl) (Wd.u rfl) rfl rfl ?_
      refine LR.v (Y.move rfl rfl) (Wd.g rfl rfl rfl) rfl rfl ?_
      refine LR.v (Y.len owd.rd rfl Try.runUnderlying22 rfl) (Wd.g rfl rfl rfl) rfl rfl ?_
      refine LR.v (Y.move rfl rfl) (Wd.g rfl rfl rfl) rfl rfl ?_
      refine LR.v (Y.len owt.rd rfl Try.runUnderlying22 rfl) (Wd.g rfl rfl rfl) rfl rfl ?_
      refine LR.v (Y.addi rfl rfl rfl (by omega)) (Wd.g rfl rfl rfl) rfl rfl ?_
      refine LR.v ((Y.gtr rfl rfl rfl).isF ((by omega))) (Wd.g rfl rfl rfl) rfl rfl ?_
      refine LR.v (Y.pick_f rfl rfl rfl) (Wd.u rfl) rfl rfl ?_
      refine LR.nil ?_
      refine hK13 _ _ ?_
      refine CW.cond_f rfl ?_
      refine CW.skip ?_
      refine hK12 _ _ ?_
      refine CW.seq (fun K14 hK14 hE14 => ?_)
      refine CW.region ?_
      refine LR.v (Y.move rfl rfl) (Wd.u rfl) rfl rfl ?_
      refine LR.v (Y.move rfl rfl) (Wd.u rfl) rfl rfl ?_
      -- call selvage/delta.Make
      refine LR.call rfl Try.call10 rfl (Wd.u rfl) rfl rfl (make_ct _ _ bs bs w0 _ hb.any hb.any (by omega) (by omega)) (fun v77 H77 r77 => ?_)
      obtain ⟨v77, ks, p77, s77, rfl, hES, ows, hk77, hs77⟩ := r77
      have df38 := DF.app (DF.z) (bf_hb.mono hm0.size) hk77
      have df39 := DF.app (DF.z) (bf_hm.mono hm0.size) hk77
      have dj40 : Dj kd ks := Dj.app (Dj.z) owd.le hk77
      have nx41 : Nx 0 H0.size ks := Nx.tr (Nx.refl 0 _) hk77 hm0.size
      replace hb := hb.nw hs77
      replace hm := hm.nw hs77
      replace owd := owd.nw hs77
      replace hm0 := hm0.tr hs77
      have hz10 := hs77.size
      have hle_ows := ows.le
      refine LR.v (Y.assign rfl rfl) (Wd.u rfl) rfl rfl ?_
      refine LR.nil ?_
      refine hK14 _ _ ?_
      refine CW.seq (fun K15 hK15 hE15 => ?_)
      refine CW.seq (fun K16 hK16 hE16 => ?_)
      refine CW.region ?_
      refine LR.v (Y.move rfl rfl) (Wd.u rfl) rfl rfl ?_
      refine LR.v (Y.len hb rfl Try.runUnderlying22 rfl) (Wd.u rfl) rfl rfl ?_
      refine LR.v (Y.gtr rfl rfl rfl) (Wd.u rfl) rfl rfl ?_
      refine LR.v (Y.move rfl rfl) (Wd.u rfl) rfl rfl ?_
      refine LR.splitp (d := 81) rfl (fun g81 => ?_) (fun g81 => ?_)
      ·
        refine LR.v (Y.move rfl rfl) (Wd.g rfl rfl rfl) rfl rfl ?_
        refine LR.v (Y.len ows.rd rfl Try.runUnderlying22 rfl) (Wd.g rfl rfl rfl) rfl rfl ?_
        refine LR.v ((Y.neq rfl rfl rfl).isF (fun h => h (by rw [same_len hES (by omega)]; rfl))) (Wd.g rfl rfl rfl) rfl rfl ?_
        refine LR.v (Y.pick_t rfl rfl rfl) (Wd.u rfl) rfl rfl ?_
        refine LR.nil ?_
        refine hK16 _ _ ?_
        refine CW.cond_f rfl ?_
        refine CW.skip ?_
        refine hK15 _ _ ?_
        refine CW.seq (fun K17 hK17 hE17 => ?_)
        refine CW.region ?_
        refine LR.z (Z.litw _ (([] : List UInt8)) rfl inf22 rfl rfl rfl (by decide) (by decide) fB_len fB_one (rfl)) (Wd.u rfl) rfl rfl (fun v87 H87 r87 => ?_)
        obtain ⟨ow87, hs87, ob87, hH87⟩ := r87
        have hzs87 : H87.size = H77.size + 1 := by rw [hH87]; simp
        have df42 := (DF.new (bf_hb.mono hm0.size) : DF _ (H77.size + 1))
        have df43 := (DF.new (bf_hm.mono hm0.size) : DF _ (H77.size + 1))
        have dj44 : Dj kd (H77.size + 1) := Dj.new owd.le
        have nx45 : Nx 0 H0.size (H77.size + 1) := Nx.new hm0.size
        replace hb := hb.nw hs87
        replace hm := hm.nw hs87
        replace owd := owd.nw hs87
        replace hm0 := hm0.tr hs87
        have hz11 := hs87.size
        refine LR.v (Y.move rfl rfl) (Wd.u rfl) rfl rfl ?_
        refine LR.z (Z.apnd ow87 hb rfl inf22 rfl rfl (by first | omega | (simp; omega)) (by first | omega | (simp; omega))) (Wd.u rfl) rfl rfl (fun v89 H89 r89 => ?_)
        obtain ⟨k89, ow89, hk89, hs89⟩ := r89
        replace hk89 : Nx (H77.size + 1) H87.size k89 := hk89
        replace hs89 := hs89.md
        have df46 := DF.app (df42) (bf_hb.mono hm0.size) hk89
        have df47 := DF.app (df43) (bf_hm.mono hm0.size) hk89
        have dj48 : Dj kd k89 := Dj.app (dj44) owd.le hk89
        have nx49 : Nx 0 H0.size k89 := Nx.tr (nx45) hk89 hm0.size
        replace hb := hb.upL hs89 (DFL.cons df42 DFL.nil)
        replace hm := hm.upL hs89 (DFL.cons df43 DFL.nil)
        replace owd := owd.upL hs89 (DL.cons dj44 DL.nil)
        replace hm0 := (Mo.trL (ks := []) (hm0.mdn []) hs89 (MIL.cons (MI.app MI.z (nx45) (Nat.le_refl _)) MIL.nil)).nil
        have hz12 := hs89.size
        have hle_ow89 := ow89.le
        refine LR.z (Z.litw _ ([(1 : UInt8)]) rfl inf22 rfl rfl rfl (by decide) (by decide) fB_len fB_one (rfl)) (Wd.u rfl) rfl rfl (fun v90 H90 r90 => ?_)
        obtain ⟨ow90, hs90, ob90, hH90⟩ := r90
        have hzs90 : H90.size = H89.size + 1 := by rw [hH90]; simp
        have df50 := (DF.new (bf_hb.mono hm0.size) : DF _ (H89.size + 1))
        have df51 := (DF.new (bf_hm.mono hm0.size) : DF _ (H89.size + 1))
        have dj52 : Dj kd (H89.size + 1) := Dj.new owd.le
        have dj53 : Dj k89 (H89.size + 1) := Dj.new ow89.le
        have nx54 : Nx 0 H0.size (H89.size + 1) := Nx.new hm0.size
        replace hb := hb.nw hs90
        replace hm := hm.nw hs90
        replace owd := owd.nw hs90
        replace ow89 := ow89.nw hs90
        replace hm0 := hm0.tr hs90
        have hz13 := hs90.size
        refine LR.z (Z.apnd ow89 ow90.rd rfl inf22 rfl rfl (by first | omega | (simp; omega)) (by first | omega | (simp; omega))) (Wd.u rfl) rfl rfl (fun v91 H91 r91 => ?_)
        obtain ⟨k91, owo, hk91, hs91⟩ := r91
        replace hk91 : Nx k89 H90.size k91 := hk91
        replace hs91 := hs91.md
        have df55 := DF.app (df46) (bf_hb.mono hm0.size) hk91
        have df56 := DF.app (df47) (bf_hm.mono hm0.size) hk91
        have dj57 : Dj kd k91 := Dj.app (dj48) owd.le hk91
        have dj58 : Dj (H89.size + 1) k91 := Dj.app (dj53.symm) ow90.le hk91
        have nx59 : Nx 0 H0.size k91 := Nx.tr (nx49) hk91 hm0.size
        replace hb := hb.upL hs91 (DFL.cons df46 DFL.nil)
        replace hm := hm.upL hs91 (DFL.cons df47 DFL.nil)
        replace owd := owd.upL hs91 (DL.cons dj48 DL.nil)
        replace ow90 := ow90.upL hs91 (DL.cons dj53.symm DL.nil)
        replace hm0 := (Mo.trL (ks := []) (hm0.mdn []) hs91 (MIL.cons (MI.app MI.z (nx49) (Nat.le_refl _)) MIL.nil)).nil
        have hz14 := hs91.size
        have hle_owo := owo.le
        refine LR.v (Y.move rfl rfl) (Wd.u rfl) rfl rfl ?_
        -- call selvage/delta.Apply
        refine LR.call rfl Try.call8 rfl (Wd.u rfl) rfl rfl (apply_ct _ _ _ X0 w0 _ owo.rd.any owd.rd.any (by simp; omega) (by omega)) (fun v93 H93 r93 => ?_)
        obtain ⟨v93, ko, xo, eo, rfl, hqo, hk93, hxo, hs93⟩ := r93
        have df60 := DF.app (DF.z) (bf_hb.mono hm0.size) hk93
        have df61 := DF.app (DF.z) (bf_hm.mono hm0.size) hk93
        have dj62 : Dj kd ko := Dj.app (Dj.z) owd.le hk93
        have dj63 : Dj (H89.size + 1) ko := Dj.app (Dj.z) ow90.le hk93
        have dj64 : Dj k91 ko := Dj.app (Dj.z) owo.le hk93
        have nx65 : Nx 0 H0.size ko := Nx.tr (Nx.refl 0 _) hk93 hm0.size
        replace hb := hb.nw hs93
        replace hm := hm.nw hs93
        replace owd := owd.nw hs93
        replace ow90 := ow90.nw hs93
        replace owo := owo.nw hs93
        replace hm0 := hm0.tr hs93
        have hz15 := hs93.size
        have hle_hqo := hqo.le
        rw [hao _ (by simp)] at hxo
        obtain ⟨rfl, rfl⟩ := Prod.mk.inj hxo
        refine LR.v (Y.move rfl rfl) (Wd.u rfl) rfl rfl ?_
        refine LR.v (Y.extract rfl rfl rfl) (Wd.u rfl) rfl rfl ?_
        refine LR.v (Y.extract rfl rfl rfl) (Wd.u rfl) rfl rfl ?_
        refine LR.v (Y.assign rfl rfl) (Wd.u rfl) rfl rfl ?_
        refine LR.v (Y.assign rfl rfl) (Wd.u rfl) rfl rfl ?_
        refine LR.nil ?_
        refine hK17 _ _ ?_
        refine CW.seq (fun K18 hK18 hE18 => ?_)
        refine CW.region ?_
        refine LR.v (Y.move rfl rfl) (Wd.u rfl) rfl rfl ?_
        refine LR.v ((Y.eql rfl rfl rfl).isT (rfl)) (Wd.u rfl) rfl rfl ?_
        refine LR.v (Y.assign rfl rfl) (Wd.u rfl) rfl rfl ?_
        refine LR.nil ?_
        refine hK18 _ _ ?_
        refine CW.ret (hret .ret (.inr rfl) _ _ _ (res1 rfl rfl) ?_)
        exact ⟨rfl, hm0⟩
      ·
        refine LR.gs rfl rfl rfl rfl rfl rfl ?_
        refine LR.gs rfl rfl rfl rfl rfl rfl ?_
        refine LR.gs rfl rfl rfl rfl rfl rfl ?_
        refine LR.v (Y.pick_f rfl rfl rfl) (Wd.u rfl) rfl rfl ?_
        refine LR.nil ?_
        refine hK16 _ _ ?_
        refine CW.cond_f rfl ?_
        refine CW.skip ?_
        refine hK15 _ _ ?_
        refine CW.seq (fun K19 hK19 hE19 => ?_)
        refine CW.region ?_
        refine LR.z (Z.litw _ (([] : List UInt8)) rfl inf22 rfl rfl rfl (by decide) (by decide) fB_len fB_one (rfl)) (Wd.u rfl) rfl rfl (fun v87 H87 r87 => ?_)
        obtain ⟨ow87, hs87, ob87, hH87⟩ := r87
        have hzs87 : H87.size = H77.size + 1 := by rw [hH87]; simp
        have df66 := (DF.new (bf_hb.mono hm0.size) : DF _ (H77.size + 1))
        have df67 := (DF.new (bf_hm.mono hm0.size) : DF _ (H77.size + 1))
        have dj68 : Dj kd (H77.size + 1) := Dj.new owd.le
        have nx69 : Nx 0 H0.size (H77.size + 1) := Nx.new hm0.size
        replace hb := hb.nw hs87
        replace hm := hm.nw hs87
        replace owd := owd.nw hs87
        replace hm0 := hm0.tr hs87
        have hz16 := hs87.size
        refine LR.v (Y.move rfl rfl) (Wd.u rfl) rfl rfl ?_
        refine LR.z (Z.apnd ow87 hb rfl inf22 rfl rfl (by first | omega | (simp; omega)) (by first | omega | (simp; omega))) (Wd.u rfl) rfl rfl (fun v89 H89 r89 => ?_)
        obtain ⟨k89, ow89, hk89, hs89⟩ := r89
        replace hk89 : Nx (H77.size + 1) H87.size k89 := hk89
        replace hs89 := hs89.md
        have df70 := DF.app (df66) (bf_hb.mono hm0.size) hk89
        have df71 := DF.app (df67) (bf_hm.mono hm0.size) hk89
        have dj72 : Dj kd k89 := Dj.app (dj68) owd.le hk89
        have nx73 : Nx 0 H0.size k89 := Nx.tr (nx69) hk89 hm0.size
        replace hb := hb.upL hs89 (DFL.cons df66 DFL.nil)
        replace hm := hm.upL hs89 (DFL.cons df67 DFL.nil)
        replace owd := owd.upL hs89 (DL.cons dj68 DL.nil)
        replace hm0 := (Mo.trL (ks := []) (hm0.mdn []) hs89 (MIL.cons (MI.app MI.z (nx69) (Nat.le_refl _)) MIL.nil)).nil
        have hz17 := hs89.size
        have hle_ow89 := ow89.le
        refine LR.z (Z.litw _ ([(1 : UInt8)]) rfl inf22 rfl rfl rfl (by decide) (by decide) fB_len fB_one (rfl)) (Wd.u rfl) rfl rfl (fun v90 H90 r90 => ?_)
        obtain ⟨ow90, hs90, ob90, hH90⟩ := r90
        have hzs90 : H90.size = H89.size + 1 := by rw [hH90]; simp
        have df74 := (DF.new (bf_hb.mono hm0.size) : DF _ (H89.size + 1))
        have df75 := (DF.new (bf_hm.mono hm0.size) : DF _ (H89.size + 1))
        have dj76 : Dj kd (H89.size + 1) := Dj.new owd.le
        have dj77 : Dj k89 (H89.size + 1) := Dj.new ow89.le
        have nx78 : Nx 0 H0.size (H89.size + 1) := Nx.new hm0.size
        replace hb := hb.nw hs90
        replace hm := hm.nw hs90
        replace owd := owd.nw hs90
        replace ow89 := ow89.nw hs90
        replace hm0 := hm0.tr hs90
        have hz18 := hs90.size
        refine LR.z (Z.apnd ow89 ow90.rd rfl inf22 rfl rfl (by first | omega | (simp; omega)) (by first | omega | (simp; omega))) (Wd.u rfl) rfl rfl (fun v91 H91 r91 => ?_)
        obtain ⟨k91, owo, hk91, hs91⟩ := r91
        replace hk91 : Nx k89 H90.size k91 := hk91
        replace hs91 := hs91.md
        have df79 := DF.app (df70) (bf_hb.mono hm0.size) hk91
        have df80 := DF.app (df71) (bf_hm.mono hm0.size) hk91
        have dj81 : Dj kd k91 := Dj.app (dj72) owd.le hk91
        have dj82 : Dj (H89.size + 1) k91 := Dj.app (dj77.symm) ow90.le hk91
        have nx83 : Nx 0 H0.size k91 := Nx.tr (nx73) hk91 hm0.size
        replace hb := hb.upL hs91 (DFL.cons df70 DFL.nil)
        replace hm := hm.upL hs91 (DFL.cons df71 DFL.nil)
        replace owd := owd.upL hs91 (DL.cons dj72 DL.nil)
        replace ow90 := ow90.upL hs91 (DL.cons dj77.symm DL.nil)
        replace hm0 := (Mo.trL (ks := []) (hm0.mdn []) hs91 (MIL.cons (MI.app MI.z (nx73) (Nat.le_refl _)) MIL.nil)).nil
        have hz19 := hs91.size
        have hle_owo := owo.le
        refine LR.v (Y.move rfl rfl) (Wd.u rfl) rfl rfl ?_
        -- call selvage/delta.Apply
        refine LR.call rfl Try.call8 rfl (Wd.u rfl) rfl rfl (apply_ct _ _ _ X0 w0 _ owo.rd.any owd.rd.any (by simp; omega) (by omega)) (fun v93 H93 r93 => ?_)
        obtain ⟨v93, ko, xo, eo, rfl, hqo, hk93, hxo, hs93⟩ := r93
        have df84 := DF.app (DF.z) (bf_hb.mono hm0.size) hk93
        have df85 := DF.app (DF.z) (bf_hm.mono hm0.size) hk93
        have dj86 : Dj kd ko := Dj.app (Dj.z) owd.le hk93
        have dj87 : Dj (H89.size + 1) ko := Dj.app (Dj.z) ow90.le hk93
        have dj88 : Dj k91 ko := Dj.app (Dj.z) owo.le hk93
        have nx89 : Nx 0 H0.size ko := Nx.tr (Nx.refl 0 _) hk93 hm0.size
        replace hb := hb.nw hs93
        replace hm := hm.nw hs93
        replace owd := owd.nw hs93
        replace ow90 := ow90.nw hs93
        replace owo := owo.nw hs93
        replace hm0 := hm0.tr hs93
        have hz20 := hs93.size
        have hle_hqo := hqo.le
        rw [hao _ (by simp)] at hxo
        obtain ⟨rfl, rfl⟩ := Prod.mk.inj hxo
        refine LR.v (Y.move rfl rfl) (Wd.u rfl) rfl rfl ?_
        refine LR.v (Y.extract rfl rfl rfl) (Wd.u rfl) rfl rfl ?_
        refine LR.v (Y.extract rfl rfl rfl) (Wd.u rfl) rfl rfl ?_
        refine LR.v (Y.assign rfl rfl) (Wd.u rfl) rfl rfl ?_
        refine LR.v (Y.assign rfl rfl) (Wd.u rfl) rfl rfl ?_
        refine LR.nil ?_
        refine hK19 _ _ ?_
        refine CW.seq (fun K20 hK20 hE20 => ?_)
        refine CW.region ?_
        refine LR.v (Y.move rfl rfl) (Wd.u rfl) rfl rfl ?_
        refine LR.v ((Y.eql rfl rfl rfl).isT (rfl)) (Wd.u rfl) rfl rfl ?_
        refine LR.v (Y.assign rfl rfl) (Wd.u rfl) rfl rfl ?_
        refine LR.nil ?_
        refine hK20 _ _ ?_
        refine CW.ret (hret .ret (.inr rfl) _ _ _ (res1 rfl rfl) ?_)
        exact ⟨rfl, hm0⟩

end Go.Proofs.Ytjkjdpainenofaa.DelJ
