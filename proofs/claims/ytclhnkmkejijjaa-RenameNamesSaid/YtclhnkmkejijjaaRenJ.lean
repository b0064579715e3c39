/-
  Of several that are the same the one with the same last name is taken, else the first.
-/
import Derived.Test.YtclhnkmkejijjaaRenI
namespace Go.Proofs.Ytclhnkmkejijjaa.RenJ
open Go.Proofs.Ytclhnkmkejijjaa.E Go.RowKit Go.Proofs.Ytclhnkmkejijjaa.RenA Go.Proofs.Ytclhnkmkejijjaa.RenB Go.Proofs.Ytclhnkmkejijjaa.RenC Go.Proofs.Ytclhnkmkejijjaa.RenD Go.Proofs.Ytclhnkmkejijjaa.RenE Go.Proofs.Ytclhnkmkejijjaa.RenF Go.Proofs.Ytclhnkmkejijjaa.RenG Go.Proofs.Ytclhnkmkejijjaa.RenH Go.Proofs.Ytclhnkmkejijjaa.RenI
set_option maxRecDepth 20000
set_option linter.unusedVariables false
set_option linter.unusedSimpArgs false
set_option linter.unusedSectionVars false
set_option maxRecDepth 100000 in
theorem inf22 : Inf Try.prog 22 5 1 1 := ⟨Try.underlying22, _, _, rfl, rfl, rfl, rfl, rfl⟩
set_option maxRecDepth 100000 in
theorem inf26 : Inf Try.prog 26 35 3 48 := ⟨Try.underlying26, _, _, rfl, rfl, rfl, rfl, rfl⟩

abbrev pOld : List UInt8 := [111, 108, 100, 47, 110, 97, 109, 101]
/-- the i-th path -/
def pN (k i : Nat) : List UInt8 := [120, UInt8.ofNat (97 + i)] ++ (if i = k then [47, 110, 97, 109, 101] else [47, 111, 116, 104, 101, 114])
def nmL (d : List UInt8) (sd : SV) (k n : Nat) : List Fl := (List.range n).map (fun i => ⟨pN k i, 1, d, sd⟩)
abbrev fOld (d : List UInt8) (sd : SV) : Fl := ⟨pOld, 1, d, sd⟩
theorem nmL_len (d : List UInt8) (sd : SV) (k n : Nat) : (nmL d sd k n).length = n := by simp [nmL]
theorem nmL_succ (d : List UInt8) (sd : SV) (k n : Nat) : nmL d sd k (n + 1) = nmL d sd k n ++ [⟨pN k n, 1, d, sd⟩] := by simp [nmL, List.range_succ]
theorem nmL_get {d : List UInt8} {sd : SV} {k n i : Nat} (h : i < (nmL d sd k n).length) : (nmL d sd k n)[i] = ⟨pN k i, 1, d, sd⟩ := by simp [nmL]
theorem pN_last {k i : Nat} (h : i < 10) : nearL pOld (pN k i) = if i = k then 0 else 1 := by
  have h1 : lastL pOld = [110, 97, 109, 101] := by decide
  have h2 : lastL (pN k i) = if i = k then [110, 97, 109, 101] else [111, 116, 104, 101, 114] := by
    unfold pN
    split
    · exact lastL_at (p := [120, UInt8.ofNat (97 + i)] ++ [47, 110, 97, 109, 101]) (j := 3) (by simp) (fun q h0 h1 => by
        simp only [List.length_append, List.length_cons, List.length_nil] at h0
        have : q = 3 ∨ q = 4 ∨ q = 5 ∨ q = 6 := by omega
        rcases this with rfl | rfl | rfl | rfl <;> simp) (fun _ => rfl)
    · exact lastL_at (p := [120, UInt8.ofNat (97 + i)] ++ [47, 111, 116, 104, 101, 114]) (j := 3) (by simp) (fun q h0 h1 => by
        simp only [List.length_append, List.length_cons, List.length_nil] at h0
        have : q = 3 ∨ q = 4 ∨ q = 5 ∨ q = 6 ∨ q = 7 := by omega
        rcases this with rfl | rfl | rfl | rfl | rfl <;> simp) (fun _ => rfl)
  unfold nearL
  rw [h1, h2]
  split
  · simp
  · rw [if_neg (by decide)]
theorem pst_nm (d : List UInt8) (sd : SV) (k n : Nat) (hn : n ≤ 10) : ∀ m, m ≤ n → pst (fOld d sd) (nmL d sd k n) m = if m = 0 then -1 else if k < m then (k : Int) else 0
  | 0, _ => by simp [pst]
  | m + 1, hm => by
    have ih := pst_nm d sd k n hn m (by omega)
    have hl : m < (nmL d sd k n).length := by rw [nmL_len]; omega
    rcases Nat.eq_zero_or_pos m with h0 | h0
    · subst h0
      rw [pst_hit hl (by rw [nmL_get]) (.inl (by rw [ih, if_pos rfl]; decide))]
      split
      · omega
      · split <;> omega
    · rw [if_neg (by omega)] at ih
      have hq : ∀ (q : Nat) (h9 : q < n), nearL (fOld d sd).p ((nmL d sd k n)[q]'(by rw [nmL_len]; exact h9)).p = if q = k then 0 else 1 := fun q h9 => by rw [nmL_get]; exact pN_last (by omega)
      by_cases hk : k < m
      · rw [if_pos hk] at ih
        rw [pst_miss hl, ih, if_neg (by omega), if_pos (by omega)]
        rintro ⟨_, h | ⟨h, h2⟩⟩
        · omega
        · simp only [ih, Int.toNat_natCast] at h2
          rw [hq k (by omega), hq m (by omega)] at h2
          split at h2 <;> simp at h2
      · rw [if_neg hk] at ih
        by_cases hm2 : m = k
        · rw [pst_hit hl (by rw [nmL_get]) (.inr ⟨by rw [ih, nmL_len]; simp; omega, by
            simp only [ih, Int.toNat_zero]
            rw [hq m (by omega), hq 0 (by omega), if_pos hm2, if_neg (by omega)]; decide⟩)]
          rw [if_neg (by omega), if_pos (by omega), hm2]
        · rw [pst_miss hl, ih, if_neg (by omega), if_neg (by omega)]
          rintro ⟨_, h | ⟨h, h2⟩⟩
          · omega
          · simp only [ih, Int.toNat_zero] at h2
            rw [hq m (by omega), hq 0 (by omega), if_neg hm2] at h2
            split at h2 <;> simp at h2
theorem diff_b0 : ∀ (b : List Fl), diffL [] b = b.map (fun y => ⟨zFl, y⟩)
  | [] => by rw [diffL]; rfl
  | y :: b => by rw [diffL, diff_b0 b]; rfl
theorem names_det {d : List UInt8} {sd : SV} {k n : Nat} (hd : d ≠ []) (hn : 2 ≤ n) (hn2 : n ≤ 10) {out : List Pr} (h : DetP (diffL [fOld d sd] (nmL d sd k n)) out) : out = [⟨pOld, pN k (if k < n then k else 0), 100⟩] := by
  have e : diffL [fOld d sd] (nmL d sd k n) = ⟨fOld d sd, zFl⟩ :: (nmL d sd k n).map (fun y => ⟨zFl, y⟩) := by
    have h0 : nmL d sd k n = ⟨pN k 0, 1, d, sd⟩ :: (nmL d sd k n).drop 1 := by
      have := List.drop_eq_getElem_cons (l := nmL d sd k n) (i := 0) (by rw [nmL_len]; omega)
      rw [nmL_get] at this
      simpa using this
    have hl : Op.bytesLess pOld (pN k 0) = true := by simp [pN, Op.bytesLess]
    rw [h0, diffL, if_pos hl, ← h0, diff_b0]
  have hc : cntF (fOld d sd).c = true := by
    have : 0 < d.length := List.length_pos_iff.2 hd
    simp [cntF, Fl.c, this]
  have hc2 : ∀ y ∈ nmL d sd k n, cntF y.c = true := by
    intro y hy
    obtain ⟨i, hi, rfl⟩ := List.mem_iff_getElem.1 hy
    rw [nmL_get]
    exact hc
  have hz : cntF zFl.c = false := by decide
  have hg : goneL (diffL [fOld d sd] (nmL d sd k n)) = [fOld d sd] := by
    rw [e]
    unfold goneL
    rw [List.filterMap_cons, if_pos ⟨rfl, hc⟩]
    simp only [List.filterMap_map, List.cons.injEq, true_and]
    rw [List.filterMap_eq_nil_iff]
    intro y hy
    simp [hz]
  have hcm : comeL (diffL [fOld d sd] (nmL d sd k n)) = nmL d sd k n := by
    rw [e]
    unfold comeL
    rw [List.filterMap_cons, if_neg (by simp)]
    simp only [List.filterMap_map]
    have : ∀ l : List Fl, (∀ y ∈ l, cntF y.c = true) → List.filterMap ((fun c : Ch => if c.o.k = 0 ∧ cntF c.n.c = true then some c.n else none) ∘ fun y => ⟨zFl, y⟩) l = l := by
      intro l hl
      induction l with
      | nil => rfl
      | cons y l ih =>
        rw [List.filterMap_cons]
        simp only [Function.comp]
        rw [if_pos ⟨rfl, hl y (by simp)⟩]
        simp only [List.cons.injEq, true_and]
        exact ih (fun z hz => hl z (by simp [hz]))
    exact this _ hc2
  obtain ⟨L, h1, _, h2, _⟩ := h
  rw [hg, hcm] at h1 h2
  obtain ⟨q, hq, hqn⟩ : ∃ q : Nat, (if k < n then k else 0) = q ∧ q < n := ⟨_, rfl, by split <;> omega⟩
  have hp : pst (fOld d sd) (nmL d sd k n) (nmL d sd k n).length = q := by
    rw [nmL_len, pst_nm d sd k n hn2 n (Nat.le_refl _), if_neg (by omega), ← hq]
    split <;> rfl
  have hex : exL [fOld d sd] (nmL d sd k n) = ([⟨pOld, pN k q, 100⟩], [], (nmL d sd k n).eraseIdx q) := by
    show exStep ([], [], nmL d sd k n) (fOld d sd) = _
    rw [exStep_yes hp (by simp only [nmL_len]; exact hqn)]
    simp only [nmL_get, List.nil_append]
  rw [hex] at h1 h2
  have : candG [] ((nmL d sd k n).eraseIdx q) = [] := by unfold candG; split <;> rfl
  simp only [this] at h1
  rw [List.perm_nil.1 h1] at h2
  rw [hq]
  exact List.perm_singleton.1 (by simpa [grd] using h2)
theorem nmL_nv (d : List UInt8) (sd : SV) (k n : Nat) : ∀ x ∈ nmL d sd k n, Nv sd d x := by
  intro x hx
  obtain ⟨i, hi, rfl⟩ := List.mem_iff_getElem.1 hx
  rw [nmL_get]
  exact Nv.m1 (by unfold pN; split <;> simp) (by decide) (by decide)
theorem b97 {i : Nat} (h : i < 10) : (UInt8.ofNat (97 + i)).toNat = 97 + i := by simp; omega

set_option maxHeartbeats 8000000 in
theorem names_ct (sd : SV) (d : List UInt8) (n0 s0 : Int) (w0 : World) (H0 : Heap)
    (hd : RdT H0 fB 1 sd.v d) (hn0 : -9223372036854775808 ≤ n0 ∧ n0 ≤ 9223372036854775807) (hs0 : -9223372036854775808 ≤ s0 ∧ s0 ≤ 9223372036854775807) :
    Ct Try.prog w0 7 #[.int .i64 n0, .int .i64 s0, sd.v] H0 (fun r H2 => r = .bool true ∧ Nw H0 H2) := by
  refine Ct.enter (args := [.int .i64 n0, .int .i64 s0, sd.v]) Try.func7 rfl rfl rfl ?_
  intro Q0 hret
  have hm0 : Nw H0 H0 := Mo.refl _ _
  replace hd := hd.bnd
  have bf_hd := Rd.bf hd
  have hdl0 := hd.len
  refine CW.seq (fun K1 hK1 hE1 => ?_)
  refine CW.region ?_
  refine LR.v (Y.assign rfl rfl) (Wd.u rfl) rfl rfl ?_
  refine LR.nil ?_
  refine hK1 _ _ ?_
  refine CW.seq (fun K2 hK2 hE2 => ?_)
  refine CW.seq (fun K3 hK3 hE3 => ?_)
  refine CW.region ?_
  -- call selvage/selvagelaw16.known
  refine LR.call rfl Try.call10 rfl (Wd.u rfl) rfl rfl (known_ct w0 _) (fun v14 H14 r14 => ?_)
  obtain ⟨rfl, hs14⟩ := r14
  replace hd := hd.nw hs14
  replace hm0 := hm0.tr hs14
  have hz1 := hs14.size
  refine LR.v (Y.not rfl rfl) (Wd.u rfl) rfl rfl ?_
  refine LR.nil ?_
  refine hK3 _ _ ?_
  refine CW.cond_f rfl ?_
  refine CW.skip ?_
  refine hK2 _ _ ?_
  refine CW.seq (fun K4 hK4 hE4 => ?_)
  refine CW.seq (fun K5 hK5 hE5 => ?_)
  refine CW.region ?_
  refine LR.v (Y.move rfl rfl) (Wd.u rfl) rfl rfl ?_
  refine LR.v (Y.len hd rfl Try.runUnderlying22 rfl) (Wd.u rfl) rfl rfl ?_
  refine LR.v (Y.eql rfl rfl rfl) (Wd.u rfl) rfl rfl ?_
  refine LR.v (Y.move rfl rfl) (Wd.u rfl) rfl rfl ?_
  refine LR.splitp (d := 19) rfl (fun g19 => ?_) (fun g19 => ?_)
  ·
    refine LR.gs rfl rfl rfl rfl rfl rfl ?_
    refine LR.gs rfl rfl rfl rfl rfl rfl ?_
    refine LR.gs rfl rfl rfl rfl rfl rfl ?_
    refine LR.v (Y.pick_t rfl rfl rfl) (Wd.u rfl) rfl rfl ?_
    refine LR.nil ?_
    refine hK5 _ _ ?_
    refine CW.cond_t rfl ?_
    refine CW.seq (fun K6 hK6 hE6 => ?_)
    refine CW.region ?_
    refine LR.v (Y.assign rfl rfl) (Wd.u rfl) rfl rfl ?_
    refine LR.nil ?_
    refine hK6 _ _ ?_
    refine CW.ret (hE4 .ret nofun _ _ (hret .ret (.inr rfl) _ _ _ (res1 rfl rfl) ?_))
    exact ⟨rfl, hm0⟩
  ·
    refine LR.v (Y.move rfl rfl) (Wd.g rfl rfl rfl) rfl rfl ?_
    refine LR.v (Y.len hd rfl Try.runUnderlying22 rfl) (Wd.g rfl rfl rfl) rfl rfl ?_
    refine LR.v (Y.gtr rfl rfl rfl) (Wd.g rfl rfl rfl) rfl rfl ?_
    refine LR.v (Y.pick_f rfl rfl rfl) (Wd.u rfl) rfl rfl ?_
    refine LR.nil ?_
    refine hK5 _ _ ?_
    refine CW.condp rfl (fun c23 => ?_) (fun c23 => ?_)
    ·
      refine CW.seq (fun K7 hK7 hE7 => ?_)
      refine CW.region ?_
      refine LR.v (Y.assign rfl rfl) (Wd.u rfl) rfl rfl ?_
      refine LR.nil ?_
      refine hK7 _ _ ?_
      refine CW.ret (hE4 .ret nofun _ _ (hret .ret (.inr rfl) _ _ _ (res1 rfl rfl) ?_))
      exact ⟨rfl, hm0⟩
    ·
      refine CW.skip ?_
      refine hK4 _ _ ?_
      refine CW.seq (fun K8 hK8 hE8 => ?_)
      refine CW.region ?_
      refine LR.v (Y.move rfl rfl) (Wd.u rfl) rfl rfl ?_
      -- call selvage/selvagelaw16.within
      refine LR.call rfl Try.call20 rfl (Wd.u rfl) rfl rfl (within_ct _ _ w0 _ (by decide) hn0) (fun v25 H25 r25 => ?_)
      obtain ⟨k25, rfl, hk25, hs25⟩ := r25
      replace hd := hd.nw hs25
      replace hm0 := hm0.tr hs25
      have hz2 := hs25.size
      obtain ⟨n, hn, hn2, hn9⟩ : ∃ n : Nat, n = 2 + k25 ∧ 2 ≤ n ∧ n ≤ 9 := ⟨_, rfl, by omega, by omega⟩
      refine LR.v (Y.cast (v2 := .int .i64 n) (Y.addi rfl rfl rfl (by omega)) (ivv (by omega))) (Wd.u rfl) rfl rfl ?_
      refine LR.v (Y.assign rfl rfl) (Wd.u rfl) rfl rfl ?_
      refine LR.nil ?_
      refine hK8 _ _ ?_
      refine CW.seq (fun K9 hK9 hE9 => ?_)
      refine CW.region ?_
      refine LR.v (Y.move rfl rfl) (Wd.u rfl) rfl rfl ?_
      refine LR.v (Y.move rfl rfl) (Wd.u rfl) rfl rfl ?_
      refine LR.v (Y.addi rfl rfl rfl (by omega)) (Wd.u rfl) rfl rfl ?_
      -- call selvage/selvagelaw16.within
      refine LR.call rfl Try.call20 rfl (Wd.u rfl) rfl rfl (within_ct _ _ w0 _ (by omega) hs0) (fun v30 H30 r30 => ?_)
      obtain ⟨k, rfl, hk30, hs30⟩ := r30
      replace hd := hd.nw hs30
      replace hm0 := hm0.tr hs30
      have hz3 := hs30.size
      refine LR.v (Y.assign rfl rfl) (Wd.u rfl) rfl rfl ?_
      refine LR.nil ?_
      refine hK9 _ _ ?_
      refine CW.seq (fun K10 hK10 hE10 => ?_)
      refine CW.region ?_
      refine LR.v (Y.move rfl rfl) (Wd.u rfl) rfl rfl ?_
      refine LR.v (Y.build (v := .agg (fFl (fOld d sd)).toArray) rfl rfl (by intro w; kernel_rfl)) (Wd.u rfl) rfl rfl ?_
      refine LR.z (Z.litw _ ([fOld d sd]) rfl inf26 rfl rfl rfl (by decide) (by decide) fFl_len fFl_one (rfl)) (Wd.u rfl) rfl rfl (fun v33 H33 r33 => ?_)
      obtain ⟨oa, hs33, ob33, hH33⟩ := r33
      have hzs33 : H33.size = H30.size + 1 := by rw [hH33]; simp
      have df1 := (DF.new (bf_hd.mono hm0.size) : DF _ (H30.size + 1))
      have nx2 : Nx 0 H0.size (H30.size + 1) := Nx.new hm0.size
      replace hd := hd.nw hs33
      replace hm0 := hm0.tr hs33
      have hz4 := hs33.size
      refine LR.v (Y.assign rfl rfl) (Wd.u rfl) rfl rfl ?_
      refine LR.nil ?_
      refine hK10 _ _ ?_
      refine CW.seq (fun K11 hK11 hE11 => ?_)
      refine CW.region ?_
      refine LR.v (Y.assign rfl rfl) (Wd.u rfl) rfl rfl ?_
      refine LR.nil ?_
      refine hK11 _ _ ?_
      refine CW.seq (fun K12 hK12 hE12 => ?_)
      refine CW.seq (fun K13 hK13 hE13 => ?_)
      refine CW.region ?_
      refine LR.v (Y.assign rfl rfl) (Wd.u rfl) rfl rfl ?_
      refine LR.nil ?_
      refine hK13 _ _ ?_
      refine CW.block (fun K14 hK14 hX14 hE14 => ?_)
      refine CW.loop (fun (s_ : (Nat) × (Value) × (Nat)) => match s_ with | (i, vb, kb) => [(0, .int .i64 n), (2, sd.v), (7, .int .i64 k), (8, v33), (9, vb), (10, .int .i64 i)])
        (fun (s_ : (Nat) × (Value) × (Nat)) (H : Heap) => match s_ with | (i, vb, kb) => (i ≤ n) ∧ (Ow kb 35 H fFl 3 vb (nmL d sd k i)) ∧ (Nx 0 H33.size kb) ∧ Nw H33 H)
        (fun (s_ : (Nat) × (Value) × (Nat)) => match s_ with | (i, vb, kb) => n - i) (0, .slice none 0 0, 0) ⟨rfl, rfl, rfl, rfl, rfl, rfl, trivial⟩ ?_ ?_
      ·
        exact ⟨(by omega), Ow.nil fFl_len fFl_one, Nx.refl _ _, Mo.refl _ _⟩
      rintro ⟨i, vb, kb⟩ HL1 hI1 K15 hN15 hE15
      obtain ⟨hi, ob, nxl_ob, hlm1⟩ := hI1
      have df3 := DF.app (DF.z) (bf_hd.mono hm0.size) nxl_ob
      have dj4 : Dj (H30.size + 1) kb := Dj.app (Dj.z) oa.le nxl_ob
      have nx5 : Nx 0 H0.size kb := Nx.tr (Nx.refl 0 _) nxl_ob hm0.size
      replace hd := hd.nw hlm1
      replace oa := oa.nw hlm1
      replace hm0 := hm0.tr hlm1
      have hz5 := hlm1.size
      have hle_ob := ob.le
      have nx6 := nxl_ob
      refine CW.seq (fun K16 hK16 hE16 => ?_)
      refine CW.seq (fun K17 hK17 hE17 => ?_)
      refine CW.region ?_
      refine LR.v (Y.move rfl rfl) (Wd.u rfl) rfl rfl ?_
      refine LR.v (Y.move rfl rfl) (Wd.u rfl) rfl rfl ?_
      refine LR.v (Y.lss rfl rfl rfl) (Wd.u rfl) rfl rfl ?_
      refine LR.nil ?_
      refine hK17 _ _ ?_
      refine CW.condp rfl (fun c36 => ?_) (fun c36 => ?_)
      ·
        refine CW.skip ?_
        refine hK16 _ _ ?_
        refine CW.seq (fun K18 hK18 hE18 => ?_)
        refine CW.block (fun K19 hK19 hX19 hE19 => ?_)
        refine CW.seq (fun K20 hK20 hE20 => ?_)
        refine CW.region ?_
        refine LR.v (Y.move rfl rfl) (Wd.u rfl) rfl rfl ?_
        refine LR.v (Y.addi rfl rfl rfl (by omega)) (Wd.u rfl) rfl rfl ?_
        refine LR.v (Y.cast (v2 := .int .u8 (UInt8.ofNat (97 + i)).toNat) (Y.conv_u8 rfl Try.runUnderlying3 Try.runUnderlying5 rfl) (by rw [b97 (by omega)] <;> simp)) (Wd.u rfl) rfl rfl ?_
        refine LR.z (Z.litw _ ([UInt8.ofNat (97 + i)]) rfl inf22 rfl rfl rfl (by decide) (by decide) fB_len fB_one (rfl)) (Wd.u rfl) rfl rfl (fun v42 H42 r42 => ?_)
        obtain ⟨nw42, hs42, ob42, hH42⟩ := r42
        have hzs42 : H42.size = HL1.size + 1 := by rw [hH42]; simp
        have df7 := (DF.new (bf_hd.mono hm0.size) : DF _ (HL1.size + 1))
        have dj8 : Dj (H30.size + 1) (HL1.size + 1) := Dj.new oa.le
        have dj9 : Dj kb (HL1.size + 1) := Dj.new ob.le
        have nx10 : Nx 0 H0.size (HL1.size + 1) := Nx.new hm0.size
        have nx11 : Nx 0 H33.size (HL1.size + 1) := Nx.new hlm1.size
        replace hd := hd.nw hs42
        replace oa := oa.nw hs42
        replace ob := ob.nw hs42
        replace hm0 := hm0.tr hs42
        replace hlm1 := hlm1.tr hs42
        have hz6 := hs42.size
        refine LR.v (Y.bstr nw42.rd rfl Try.underlying22 Try.underlying9 Try.underlying5 rfl) (Wd.u rfl) rfl rfl ?_
        refine LR.v (Y.sadd rfl rfl rfl (by simp)) (Wd.u rfl) rfl rfl ?_
        refine LR.v (Y.sadd rfl rfl rfl (by simp)) (Wd.u rfl) rfl rfl ?_
        refine LR.v (Y.assign rfl rfl) (Wd.u rfl) rfl rfl ?_
        refine LR.nil ?_
        refine hK20 _ _ ?_
        refine CW.cut (fun (_ : Unit) => [(0, .int .i64 n), (2, sd.v), (7, .int .i64 k), (8, v33), (9, vb), (10, .int .i64 i), (11, Str (pN k i))])
          (fun (_ : Unit) (H : Heap) => (True) ∧ Nw H42 H) (fun K21 hK21 hE21 => ?_) ?_
        ·
          have hcm21 : Nw H42 H42 := Mo.refl _ _
          refine CW.seq (fun K22 hK22 hE22 => ?_)
          refine CW.region ?_
          refine LR.v (Y.move rfl rfl) (Wd.u rfl) rfl rfl ?_
          refine LR.v (Y.move rfl rfl) (Wd.u rfl) rfl rfl ?_
          refine LR.v (Y.eql rfl rfl rfl) (Wd.u rfl) rfl rfl ?_
          refine LR.nil ?_
          refine hK22 _ _ ?_
          refine CW.condp rfl (fun c48 => ?_) (fun c48 => ?_)
          ·
            refine CW.region ?_
            refine LR.v (Y.move rfl rfl) (Wd.u rfl) rfl rfl ?_
            refine LR.v (Y.addi rfl rfl rfl (by omega)) (Wd.u rfl) rfl rfl ?_
            refine LR.v (Y.cast (v2 := .int .u8 (UInt8.ofNat (97 + i)).toNat) (Y.conv_u8 rfl Try.runUnderlying3 Try.runUnderlying5 rfl) (by rw [b97 (by omega)] <;> simp)) (Wd.u rfl) rfl rfl ?_
            refine LR.z (Z.litw _ ([UInt8.ofNat (97 + i)]) rfl inf22 rfl rfl rfl (by decide) (by decide) fB_len fB_one (rfl)) (Wd.u rfl) rfl rfl (fun v52 H52 r52 => ?_)
            obtain ⟨nw52, hs52, ob52, hH52⟩ := r52
            have hzs52 : H52.size = H42.size + 1 := by rw [hH52]; simp
            have df12 := (DF.new (bf_hd.mono hm0.size) : DF _ (H42.size + 1))
            have dj13 : Dj (H30.size + 1) (H42.size + 1) := Dj.new oa.le
            have dj14 : Dj kb (H42.size + 1) := Dj.new ob.le
            have nx15 : Nx 0 H0.size (H42.size + 1) := Nx.new hm0.size
            have nx16 : Nx 0 H33.size (H42.size + 1) := Nx.new hlm1.size
            have nx17 : Nx 0 H42.size (H42.size + 1) := Nx.new hcm21.size
            replace hd := hd.nw hs52
            replace oa := oa.nw hs52
            replace ob := ob.nw hs52
            replace hm0 := hm0.tr hs52
            replace hlm1 := hlm1.tr hs52
            replace hcm21 := hcm21.tr hs52
            have hz7 := hs52.size
            refine LR.v (Y.bstr nw52.rd rfl Try.underlying22 Try.underlying9 Try.underlying5 rfl) (Wd.u rfl) rfl rfl ?_
            refine LR.v (Y.sadd rfl rfl rfl (by simp)) (Wd.u rfl) rfl rfl ?_
            refine LR.v (Y.sadd rfl rfl rfl (by simp)) (Wd.u rfl) rfl rfl ?_
            refine LR.v (Y.assign rfl rfl) (Wd.u rfl) rfl rfl ?_
            refine LR.nil ?_
            refine QN.sub (hK21 () _ ?_) ⟨(iv (by omega)), rfl, (iv (by omega)), rfl, rfl, (iv (by omega)), (by first | (rw [pN, if_pos (by omega)]; rfl) | (rw [pN, if_neg (by omega)]; rfl)), trivial⟩
            exact ⟨trivial, hcm21⟩
          ·
            refine CW.skip ?_
            refine QN.sub (hK21 () _ ?_) ⟨(iv (by omega)), rfl, (iv (by omega)), rfl, rfl, (iv (by omega)), (by first | (rw [pN, if_pos (by omega)]; rfl) | (rw [pN, if_neg (by omega)]; rfl)), trivial⟩
            exact ⟨trivial, hcm21⟩
        ·
          intro _ Hcutc48 hIcutc48
          obtain ⟨ht, hlmcutc48⟩ := hIcutc48
          replace hd := hd.nw hlmcutc48
          replace oa := oa.nw hlmcutc48
          replace ob := ob.nw hlmcutc48
          replace hm0 := hm0.tr hlmcutc48
          replace hlm1 := hlm1.tr hlmcutc48
          have hz8 := hlmcutc48.size
          refine CW.region ?_
          refine LR.v (Y.move rfl rfl) (Wd.u rfl) rfl rfl ?_
          refine LR.v (Y.move rfl rfl) (Wd.u rfl) rfl rfl ?_
          refine LR.v (Y.move rfl rfl) (Wd.u rfl) rfl rfl ?_
          refine LR.v (Y.build (v := .agg (fFl ⟨pN k i, 1, d, sd⟩).toArray) rfl rfl (by intro w; kernel_rfl)) (Wd.u rfl) rfl rfl ?_
          refine LR.z (Z.litw _ ([(⟨pN k i, 1, d, sd⟩ : Fl)]) rfl inf26 rfl rfl rfl (by decide) (by decide) fFl_len fFl_one (rfl)) (Wd.u rfl) rfl rfl (fun v60 H60 r60 => ?_)
          obtain ⟨nw60, hs60, ob60, hH60⟩ := r60
          have hzs60 : H60.size = Hcutc48.size + 1 := by rw [hH60]; simp
          have df18 := (DF.new (bf_hd.mono hm0.size) : DF _ (Hcutc48.size + 1))
          have dj19 : Dj (H30.size + 1) (Hcutc48.size + 1) := Dj.new oa.le
          have dj20 : Dj kb (Hcutc48.size + 1) := Dj.new ob.le
          have nx21 : Nx 0 H0.size (Hcutc48.size + 1) := Nx.new hm0.size
          have nx22 : Nx 0 H33.size (Hcutc48.size + 1) := Nx.new hlm1.size
          replace hd := hd.nw hs60
          replace oa := oa.nw hs60
          replace ob := ob.nw hs60
          replace hm0 := hm0.tr hs60
          replace hlm1 := hlm1.tr hs60
          have hz9 := hs60.size
          refine LR.z (Z.apnd ob nw60.rd rfl inf26 rfl rfl (by simp [nmL_len]; omega) (by simp [nmL_len]; omega)) (Wd.u rfl) rfl rfl (fun v61 H61 r61 => ?_)
          obtain ⟨k61, ob, hk61, hs61⟩ := r61
          replace hk61 : Nx kb H60.size k61 := hk61
          replace hs61 := hs61.md
          have df23 := DF.app (df3) (bf_hd.mono hm0.size) hk61
          have dj24 : Dj (H30.size + 1) k61 := Dj.app (dj4) oa.le hk61
          have dj25 : Dj (Hcutc48.size + 1) k61 := Dj.app (dj20.symm) nw60.le hk61
          have nx26 : Nx 0 H0.size k61 := Nx.tr (nx5) hk61 hm0.size
          have nx27 : Nx 0 H33.size k61 := Nx.tr (nx6) hk61 hlm1.size
          replace hd := hd.upL hs61 (DFL.cons df3 DFL.nil)
          replace oa := oa.upL hs61 (DL.cons dj4 DL.nil)
          replace nw60 := nw60.upL hs61 (DL.cons dj20.symm DL.nil)
          replace hm0 := (Mo.trL (ks := []) (hm0.mdn []) hs61 (MIL.cons (MI.app MI.z (nx5) (Nat.le_refl _)) MIL.nil)).nil
          replace hlm1 := (Mo.trL (ks := []) (hlm1.mdn []) hs61 (MIL.cons (MI.app MI.z (nx6) (Nat.le_refl _)) MIL.nil)).nil
          have hz10 := hs61.size
          have hle_ob := ob.le
          refine LR.v (Y.assign rfl rfl) (Wd.u rfl) rfl rfl ?_
          refine LR.nil ?_
          refine hK19 _ _ ?_
          refine hK18 _ _ ?_
          refine CW.region ?_
          refine LR.v (Y.move rfl rfl) (Wd.u rfl) rfl rfl ?_
          refine LR.v (Y.addi rfl rfl rfl (by omega)) (Wd.u rfl) rfl rfl ?_
          refine LR.v (Y.assign rfl rfl) (Wd.u rfl) rfl rfl ?_
          refine LR.nil ?_
          refine QN.sub (hN15 (i + 1, v61, k61) _ ?_ ?_) ⟨(iv (by omega)), rfl, (iv (by omega)), rfl, rfl, (iv (by omega)), trivial⟩
          · exact ⟨(by omega), by rw [nmL_succ]; exact ob, nx27, hlm1⟩
          · first | omega | (simp only; omega) | (simp; omega)
      ·
        have hin : i = n := by omega
        rw [hin] at ob
        refine CW.exit (hE16 (.exit 0) nofun _ _ (hE15 (.exit 0) nofun _ _ (hX14 _ _ ?_)))
        refine hK12 _ _ ?_
        refine CW.seq (fun K23 hK23 hE23 => ?_)
        refine CW.region ?_
        refine LR.v (Y.move rfl rfl) (Wd.u rfl) rfl rfl ?_
        refine LR.v (Y.move rfl rfl) (Wd.u rfl) rfl rfl ?_
        -- call selvage/selvageref15.Diff
        refine LR.call rfl Try.call14 rfl (Wd.u rfl) rfl rfl (diff_ct v33 vb [fOld d sd] (nmL d sd k n) w0 _ oa.rd.any ob.rd.any (fun x h => ((nv1 (Nv.m1 (by decide) (by decide) (by decide))) x h).R hd) (fun x h => ((nmL_nv d sd k n) x h).R hd) (by first | omega | (simp only [nmL_len, List.length_cons, List.length_nil]; omega)) (by first | omega | (simp only [nmL_len, List.length_cons, List.length_nil]; omega))) (fun v64 H64 r64 => ?_)
        obtain ⟨vc_, kc, rfl, oc, hkc, hdl, hs64⟩ := r64
        have df28 := DF.app (DF.z) (bf_hd.mono hm0.size) hkc
        have dj29 : Dj (H30.size + 1) kc := Dj.app (Dj.z) oa.le hkc
        have dj30 : Dj kb kc := Dj.app (Dj.z) ob.le hkc
        have nx31 : Nx 0 H0.size kc := Nx.tr (Nx.refl 0 _) hkc hm0.size
        replace hd := hd.nw hs64
        replace oa := oa.nw hs64
        replace ob := ob.nw hs64
        replace hm0 := hm0.tr hs64
        have hz11 := hs64.size
        have hle_oc := oc.le
        -- call selvage/rename.Detect
        refine LR.call rfl Try.call17 rfl (Wd.u rfl) rfl rfl (detect_ct v64 (diffL [fOld d sd] (nmL d sd k n)) w0 _ oc.rd.any (fun c hc => (diffL_all (Nv.z sd d) [fOld d sd] (nmL d sd k n) (nv1 (Nv.m1 (by decide) (by decide) (by decide))) (nmL_nv d sd k n) c hc).1.R hd) (fun c hc => (diffL_all (Nv.z sd d) [fOld d sd] (nmL d sd k n) (nv1 (Nv.m1 (by decide) (by decide) (by decide))) (nmL_nv d sd k n) c hc).2.R hd) (Nat.le_trans hdl (by first | omega | (simp only [nmL_len, List.length_cons, List.length_nil]; omega))) (fun c hc => ⟨(diffL_all (Nv.z sd d) [fOld d sd] (nmL d sd k n) (nv1 (Nv.m1 (by decide) (by decide) (by decide))) (nmL_nv d sd k n) c hc).1.b (by omega), (diffL_all (Nv.z sd d) [fOld d sd] (nmL d sd k n) (nv1 (Nv.m1 (by decide) (by decide) (by decide))) (nmL_nv d sd k n) c hc).2.b (by omega)⟩)) (fun v65 H65 r65 => ?_)
        obtain ⟨vd_, kd, out, rfl, od, hkd, hdet, hs65⟩ := r65
        have df32 := DF.app (DF.z) (bf_hd.mono hm0.size) hkd
        have dj33 : Dj (H30.size + 1) kd := Dj.app (Dj.z) oa.le hkd
        have dj34 : Dj kb kd := Dj.app (Dj.z) ob.le hkd
        have dj35 : Dj kc kd := Dj.app (Dj.z) oc.le hkd
        have nx36 : Nx 0 H0.size kd := Nx.tr (Nx.refl 0 _) hkd hm0.size
        replace hd := hd.nw hs65
        replace oa := oa.nw hs65
        replace ob := ob.nw hs65
        replace oc := oc.nw hs65
        replace hm0 := hm0.tr hs65
        have hz12 := hs65.size
        have hle_od := od.le
        have hout := names_det (by intro e; rw [e] at g19; simp at g19) hn2 (by omega) hdet
        subst hout
        refine LR.v (Y.assign rfl rfl) (Wd.u rfl) rfl rfl ?_
        refine LR.nil ?_
        refine hK23 _ _ ?_
        refine CW.seq (fun K24 hK24 hE24 => ?_)
        refine CW.region ?_
        refine LR.v (Y.move rfl rfl) (Wd.u rfl) rfl rfl ?_
        refine LR.v (Y.owAddr ob (0) rfl Try.runUnderlying26 Try.sizeOf35 rfl rfl (by first | rfl | omega) (by rw [nmL_len]; omega)) (Wd.u rfl) rfl rfl ?_
        refine LR.v (Y.fieldAddr (ob.pt (j := 0) (by rw [nmL_len]; omega)) rfl Try.runUnderlying35 rfl rfl Try.sizeOf9 (by decide) rfl) (Wd.u rfl) rfl rfl ?_
        refine LR.v (Y.cast (v2 := Str (pN k 0)) (Y.load1 ((ob.pt (j := 0) (by rw [nmL_len]; omega)).drop 0) rfl Try.isAgg9 rfl) (by rw [nmL_get])) (Wd.u rfl) rfl rfl ?_
        refine LR.v (Y.assign rfl rfl) (Wd.u rfl) rfl rfl ?_
        refine LR.nil ?_
        refine hK24 _ _ ?_
        refine CW.seq (fun K25 hK25 hE25 => ?_)
        refine CW.seq (fun K26 hK26 hE26 => ?_)
        refine CW.region ?_
        refine LR.v (Y.move rfl rfl) (Wd.u rfl) rfl rfl ?_
        refine LR.v (Y.move rfl rfl) (Wd.u rfl) rfl rfl ?_
        refine LR.v (Y.lss rfl rfl rfl) (Wd.u rfl) rfl rfl ?_
        refine LR.nil ?_
        refine hK26 _ _ ?_
        refine CW.condp rfl (fun c72 => ?_) (fun c72 => ?_)
        ·
          refine CW.region ?_
          refine LR.v (Y.move rfl rfl) (Wd.u rfl) rfl rfl ?_
          refine LR.v (Y.move rfl rfl) (Wd.u rfl) rfl rfl ?_
          refine LR.v (Y.owAddr ob (k) rfl Try.runUnderlying26 Try.sizeOf35 rfl rfl (by first | rfl | omega) (by rw [nmL_len]; omega)) (Wd.u rfl) rfl rfl ?_
          refine LR.v (Y.fieldAddr (ob.pt (j := k) (by rw [nmL_len]; omega)) rfl Try.runUnderlying35 rfl rfl Try.sizeOf9 (by decide) rfl) (Wd.u rfl) rfl rfl ?_
          refine LR.v (Y.cast (v2 := Str (pN k k)) (Y.load1 ((ob.pt (j := k) (by rw [nmL_len]; omega)).drop 0) rfl Try.isAgg9 rfl) (by rw [nmL_get])) (Wd.u rfl) rfl rfl ?_
          refine LR.v (Y.assign rfl rfl) (Wd.u rfl) rfl rfl ?_
          refine LR.nil ?_
          refine hK25 _ _ ?_
          refine CW.seq (fun K27 hK27 hE27 => ?_)
          refine CW.region ?_
          refine LR.v (Y.move rfl rfl) (Wd.u rfl) rfl rfl ?_
          refine LR.v (Y.len od.rd rfl Try.runUnderlying31 rfl) (Wd.u rfl) rfl rfl ?_
          refine LR.v ((Y.eql rfl rfl rfl).isT (rfl)) (Wd.u rfl) rfl rfl ?_
          refine LR.v (Y.move rfl rfl) (Wd.u rfl) rfl rfl ?_
          refine LR.v (Y.move rfl rfl) (Wd.g rfl rfl rfl) rfl rfl ?_
          refine LR.v (Y.owAddr od (0) rfl Try.runUnderlying31 Try.sizeOf38 rfl rfl (by first | rfl | omega) (by first | omega | (simp; omega) | (simp; done))) (Wd.g rfl rfl rfl) rfl rfl ?_
          refine LR.v (Y.loadN (od.pt (j := 0) (by first | omega | (simp; omega) | (simp; done))) rfl Try.isAgg38 Try.sizeOf38 (rfl) rfl) (Wd.g rfl rfl rfl) rfl rfl ?_
          refine LR.v (Y.cast (v2 := Str (pN k (if k < n then k else 0))) (Y.move rfl rfl) (by first | rw [if_pos (by omega)] | rw [if_neg (by omega)])) (Wd.g rfl rfl rfl) rfl rfl ?_
          refine LR.v (Y.build (v := .agg (fPr ⟨pOld, pN k (if k < n then k else 0), 100⟩).toArray) rfl rfl (by intro w; kernel_rfl)) (Wd.g rfl rfl rfl) rfl rfl ?_
          refine LR.v ((Y.aeql rfl Try.eqGuardType38 (fun w => eqPr _ _ 9998 w) rfl rfl).isT (rfl)) (Wd.g rfl rfl rfl) rfl rfl ?_
          refine LR.v (Y.pick_t rfl rfl rfl) (Wd.u rfl) rfl rfl ?_
          refine LR.v (Y.assign rfl rfl) (Wd.u rfl) rfl rfl ?_
          refine LR.nil ?_
          refine hK27 _ _ ?_
          refine CW.ret (hret .ret (.inr rfl) _ _ _ (res1 rfl rfl) ?_)
          exact ⟨rfl, hm0⟩
        ·
          refine CW.skip ?_
          refine hK25 _ _ ?_
          refine CW.seq (fun K28 hK28 hE28 => ?_)
          refine CW.region ?_
          refine LR.v (Y.move rfl rfl) (Wd.u rfl) rfl rfl ?_
          refine LR.v (Y.len od.rd rfl Try.runUnderlying31 rfl) (Wd.u rfl) rfl rfl ?_
          refine LR.v ((Y.eql rfl rfl rfl).isT (rfl)) (Wd.u rfl) rfl rfl ?_
          refine LR.v (Y.move rfl rfl) (Wd.u rfl) rfl rfl ?_
          refine LR.v (Y.move rfl rfl) (Wd.g rfl rfl rfl) rfl rfl ?_
          refine LR.v (Y.owAddr od (0) rfl Try.runUnderlying31 Try.sizeOf38 rfl rfl (by first | rfl | omega) (by first | omega | (simp; omega) | (simp; done))) (Wd.g rfl rfl rfl) rfl rfl ?_
          refine LR.v (Y.loadN (od.pt (j := 0) (by first | omega | (simp; omega) | (simp; done))) rfl Try.isAgg38 Try.sizeOf38 (rfl) rfl) (Wd.g rfl rfl rfl) rfl rfl ?_
          refine LR.v (Y.cast (v2 := Str (pN k (if k < n then k else 0))) (Y.move rfl rfl) (by first | rw [if_pos (by omega)] | rw [if_neg (by omega)])) (Wd.g rfl rfl rfl) rfl rfl ?_
          refine LR.v (Y.build (v := .agg (fPr ⟨pOld, pN k (if k < n then k else 0), 100⟩).toArray) rfl rfl (by intro w; kernel_rfl)) (Wd.g rfl rfl rfl) rfl rfl ?_
          refine LR.v ((Y.aeql rfl Try.eqGuardType38 (fun w => eqPr _ _ 9998 w) rfl rfl).isT (rfl)) (Wd.g rfl rfl rfl) rfl rfl ?_
          refine LR.v (Y.pick_t rfl rfl rfl) (Wd.u rfl) rfl rfl ?_
          refine LR.v (Y.assign rfl rfl) (Wd.u rfl) rfl rfl ?_
          refine LR.nil ?_
          refine hK28 _ _ ?_
          refine CW.ret (hret .ret (.inr rfl) _ _ _ (res1 rfl rfl) ?_)
          exact ⟨rfl, hm0⟩

end Go.Proofs.Ytclhnkmkejijjaa.RenJ
