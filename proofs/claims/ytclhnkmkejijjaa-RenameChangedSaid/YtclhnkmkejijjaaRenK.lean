/-
  A file that went elsewhere with some of its lines changed.
-/
import Derived.Test.YtclhnkmkejijjaaRenJ
namespace Go.Proofs.Ytclhnkmkejijjaa.RenK
open Go.Proofs.Ytclhnkmkejijjaa.E Go.RowKit Go.Proofs.Ytclhnkmkejijjaa.RenA Go.Proofs.Ytclhnkmkejijjaa.RenB Go.Proofs.Ytclhnkmkejijjaa.RenC Go.Proofs.Ytclhnkmkejijjaa.RenD Go.Proofs.Ytclhnkmkejijjaa.RenE Go.Proofs.Ytclhnkmkejijjaa.RenF Go.Proofs.Ytclhnkmkejijjaa.RenG Go.Proofs.Ytclhnkmkejijjaa.RenH Go.Proofs.Ytclhnkmkejijjaa.RenI Go.Proofs.Ytclhnkmkejijjaa.RenJ
set_option maxRecDepth 20000
set_option linter.unusedVariables false
set_option linter.unusedSimpArgs false
set_option linter.unusedSectionVars false
set_option maxRecDepth 100000 in
theorem inf22 : Inf Try.prog 22 5 1 1 := ⟨Try.underlying22, _, _, rfl, rfl, rfl, rfl, rfl⟩
set_option maxRecDepth 100000 in
theorem inf26 : Inf Try.prog 26 35 3 48 := ⟨Try.underlying26, _, _, rfl, rfl, rfl, rfl, rfl⟩

section
variable {α : Type} [DecidableEq α]
theorem pairN_nodup : ∀ (y x : List α), y.Nodup → pairN x y = (y.filter (fun s => decide (s ∈ x))).length
  | [], _, _ => rfl
  | s :: t, x, h => by
    obtain ⟨h1, h2⟩ := List.nodup_cons.1 h
    rw [pairN, List.filter_cons]
    by_cases hs : s ∈ x
    · rw [if_pos hs, pairN_nodup t _ h2, if_pos (by simpa using hs), List.length_cons]
      congr 2
      refine List.filter_congr (fun z hz => ?_)
      have : z ≠ s := fun e => h1 (e ▸ hz)
      simp [List.mem_erase_of_ne this]
    · rw [if_neg hs, if_neg (by simpa using hs), pairN_nodup t x h2]
end
theorem split_line : ∀ (s cur rest : List UInt8), (∀ c ∈ s, c ≠ 10) → splitL cur (s ++ 10 :: rest) = (cur ++ s ++ [10]) :: splitL [] rest
  | [], cur, rest, _ => by simp [splitL]
  | c :: s, cur, rest, h => by
    have hc := h c (by simp)
    rw [List.cons_append, splitL, if_neg hc, split_line s _ rest (fun d hd => h d (by simp [hd]))]; simp
def c65 (i : Nat) : UInt8 := UInt8.ofNat (65 + i)
theorem c65_nat {i : Nat} (h : i < 31) : (c65 i).toNat = 65 + i := by simp [c65]; omega
theorem c65_ne {i : Nat} (h : i < 31) : c65 i ≠ 10 := fun e => by have := congrArg UInt8.toNat e; rw [c65_nat h] at this; simp at this; omega
theorem c65_inj {i j : Nat} (h : i < 31) (h2 : j < 31) (e : c65 i = c65 j) : i = j := by have := congrArg UInt8.toNat e; rw [c65_nat h, c65_nat h2] at this; omega
/-- the i-th line, changed or not -/
def ln (c i : Nat) : List UInt8 := if i < c then [c65 i, 33, 10] else [c65 i, 10]
def lns (c n : Nat) : List (List UInt8) := (List.range n).map (ln c)
def byt (c n : Nat) : List UInt8 := (lns c n).flatten
theorem byt_succ (c n : Nat) : byt c (n + 1) = byt c n ++ ln c n := by simp [byt, lns, List.range_succ]
theorem lns_len (c n : Nat) : (lns c n).length = n := by simp [lns]
theorem split_byt (c n : Nat) (hn : n < 31) : splitL [] (byt c n) = lns c n := by
  have key : ∀ l : List Nat, (∀ i ∈ l, i < 31) → splitL [] ((l.map (ln c)).flatten) = l.map (ln c) := by
    intro l
    induction l with
    | nil => intro _; simp [splitL]
    | cons i l ih =>
      intro h
      have hi := c65_ne (h i (by simp))
      rw [List.map_cons, List.flatten_cons]
      have e : ∃ s, ln c i = s ++ [10] ∧ ∀ d ∈ s, d ≠ 10 := by
        unfold ln
        split
        · exact ⟨[c65 i, 33], rfl, by intro d hd; simp only [List.mem_cons, List.not_mem_nil, or_false] at hd; rcases hd with rfl | rfl; exact hi; decide⟩
        · exact ⟨[c65 i], rfl, by intro d hd; rw [List.mem_singleton] at hd; rw [hd]; exact hi⟩
      obtain ⟨s, e1, e2⟩ := e
      rw [e1, List.append_assoc, List.singleton_append, split_line s [] _ e2, ih (fun j hj => h j (by simp [hj]))]; simp
  exact key (List.range n) (fun i hi => by have := List.mem_range.1 hi; omega)
theorem ln_inj {c i j : Nat} (h : i < 31) (h2 : j < 31) (e : ln c i = ln c j) : i = j := by
  unfold ln at e
  split at e <;> split at e <;> simp at e
  · exact c65_inj h h2 e
  · exact c65_inj h h2 e
theorem lns_nodup (c n : Nat) (hn : n < 31) : (lns c n).Nodup := by
  unfold lns
  rw [List.nodup_iff_pairwise_ne, List.pairwise_map]
  refine (List.nodup_iff_pairwise_ne.1 List.nodup_range).imp_of_mem (fun {a b} ha hb hne e => hne ?_)
  have := List.mem_range.1 ha; have := List.mem_range.1 hb
  exact ln_inj (by omega) (by omega) e
theorem ln_mem {c n i : Nat} (hi : i < n) (hn : n < 31) : ln c i ∈ lns 0 n ↔ ¬ i < c := by
  unfold lns
  rw [List.mem_map]
  constructor
  · rintro ⟨j, hj, e⟩ h
    unfold ln at e
    rw [if_neg (Nat.not_lt_zero _), if_pos h] at e
    simp at e
  · intro h
    refine ⟨i, List.mem_range.2 hi, ?_⟩
    unfold ln
    rw [if_neg (Nat.not_lt_zero _), if_neg h]
theorem filt_len (c : Nat) : ∀ n, ((List.range n).filter (fun i => decide (¬ i < c))).length = n - c
  | 0 => by simp
  | n + 1 => by
    rw [List.range_succ, List.filter_append, List.length_append, filt_len c n]
    have h1 : ([n].filter (fun i => decide (¬ i < c))).length = if n < c then 0 else 1 := by
      rw [List.filter_cons]
      by_cases h : n < c
      · rw [if_neg (by simpa using h), if_pos h]; rfl
      · rw [if_pos (by simpa using h), if_neg h]; rfl
    rw [h1]
    split <;> omega
theorem pair_chg {c n : Nat} (hn : n < 31) : pairN (lns 0 n) (lns c n) = n - c := by
  rw [pairN_nodup _ _ (lns_nodup c n hn), ← filt_len c n]
  show (((List.range n).map (ln c)).filter _).length = _
  rw [List.filter_map, List.length_map]
  congr 1
  refine List.filter_congr (fun i hi => ?_)
  have := List.mem_range.1 hi
  simp only [Function.comp]
  rw [decide_eq_decide]
  exact ln_mem this hn
theorem byt_len (c n : Nat) (h : c ≤ n) : (byt c n).length = 2 * n + c ∧ True := by
  refine ⟨?_, trivial⟩
  have : ∀ n, (byt c n).length = 2 * n + min c n := by
    intro n
    induction n with
    | zero => simp [byt, lns]
    | succ n ih => rw [byt_succ, List.length_append, ih]; unfold ln; split <;> simp <;> omega
  rw [this]; omega
theorem score_chg {c n : Nat} (h0 : 1 ≤ n) (hn : n < 31) (hc : c ≤ n) : scoreB (byt 0 n) (byt c n) = 200 * (n - c) / (2 * n) := by
  unfold scoreB scoreL
  have l0 := (byt_len 0 n (by omega)).1
  have l1 := (byt_len c n hc).1
  split
  · rename_i e
    have : c = 0 := by rw [e] at l0; omega
    subst this
    rw [Nat.sub_zero, show 200 * n = 100 * (2 * n) by omega, Nat.mul_div_cancel _ (by omega)]
  · rw [split_byt 0 n hn, split_byt c n hn, pair_chg hn, lns_len, lns_len]
    congr 1; omega
theorem quo_cast {n c : Nat} (h : c ≤ n) : (200 * ((n : Int) - c)) / (2 * n) = ((200 * (n - c) / (2 * n) : Nat) : Int) := by
  have h9 : ((n - c : Nat) : Int) = (n : Int) - c := by omega
  rw [← h9]; norm_cast
theorem flR1 {F : Nat → Prop} {H : Heap} {p d : List UInt8} {s : SV} {k : Int} (h : Rd F H fB 1 s.v d) (hk : k = 1 ∨ k = 2) : FlR (fun _ => True) H ⟨p, k, d, s⟩ := ⟨h.any, by simp only; omega⟩
abbrev pO : List UInt8 := [111, 108, 100]
abbrev pT : List UInt8 := [116, 111, 47, 110, 101, 119]
theorem chg_diff (fo fn : Fl) (h1 : fo.p = pO) (h2 : fn.p = pT) : diffL [fo] [fn] = [⟨fo, zFl⟩, ⟨zFl, fn⟩] := by
  rw [diffL, if_pos (by rw [h1, h2]; decide), diffL, diffL]
theorem chg_det {a b : List UInt8} {sa sb : SV} (ha : 0 < a.length) (hb : 0 < b.length) {out : List Pr} (h : DetP (diffL [⟨pO, 1, a, sa⟩] [⟨pT, 2, b, sb⟩]) out) : out = if 50 ≤ scoreB a b then [⟨pO, pT, (scoreB a b : Nat)⟩] else [] := by
  rw [chg_diff _ _ rfl rfl] at h
  have hca : cntF (⟨pO, 1, a, sa⟩ : Fl).c = true := by simp [cntF, Fl.c, ha]
  have hcb : cntF (⟨pT, 2, b, sb⟩ : Fl).c = true := by simp [cntF, Fl.c, hb]
  have hg : goneL [⟨⟨pO, 1, a, sa⟩, zFl⟩, ⟨zFl, ⟨pT, 2, b, sb⟩⟩] = [⟨pO, 1, a, sa⟩] := by simp [goneL, zFl, hca]
  have hc : comeL [⟨⟨pO, 1, a, sa⟩, zFl⟩, ⟨zFl, ⟨pT, 2, b, sb⟩⟩] = [⟨pT, 2, b, sb⟩] := by simp [comeL, zFl, hcb]
  obtain ⟨L, h1, _, h2, _⟩ := h
  rw [hg, hc] at h1 h2
  by_cases e : a = b
  · subst e
    have hp : pst ⟨pO, 1, a, sa⟩ [⟨pT, 2, a, sb⟩] 1 = (0 : Nat) := pst_hit (by simp) rfl (.inl (by simp [pst]))
    have hx : exL [⟨pO, 1, a, sa⟩] [⟨pT, 2, a, sb⟩] = ([⟨pO, pT, 100⟩], [], []) := by
      show exStep ([], [], [⟨pT, 2, a, sb⟩]) ⟨pO, 1, a, sa⟩ = _
      rw [exStep_yes hp (by simp)]; rfl
    rw [hx] at h1 h2
    rw [List.perm_nil.1 (show L.Perm [] from h1)] at h2
    rw [scoreB_self, if_pos (by decide)]
    exact List.perm_singleton.1 (by simpa [grd] using h2)
  · have hp : pst ⟨pO, 1, a, sa⟩ [⟨pT, 2, b, sb⟩] 1 = -1 := by
      rw [pst_miss (by simp) (by rintro ⟨h, _⟩; exact e h)]; rfl
    have hx : exL [⟨pO, 1, a, sa⟩] [⟨pT, 2, b, sb⟩] = ([], [⟨pO, 1, a, sa⟩], [⟨pT, 2, b, sb⟩]) := by
      show exStep ([], [], [⟨pT, 2, b, sb⟩]) ⟨pO, 1, a, sa⟩ = _
      rw [exStep_no (by show pst _ _ 1 < 0; rw [hp]; decide)]; rfl
    rw [hx] at h1 h2
    simp only [candG, List.length_cons, List.length_nil, candL, List.flatMap_cons, List.flatMap_nil, List.append_nil, cand1, List.filterMap_cons, List.filterMap_nil] at h1
    rw [if_pos (by decide)] at h1
    by_cases hs : 50 ≤ scoreB a b
    · simp only [if_pos hs] at h1 ⊢
      rw [List.perm_singleton.1 h1] at h2
      exact List.perm_singleton.1 (by simpa [grd] using h2)
    · simp only [if_neg hs] at h1 ⊢
      rw [List.perm_nil.1 h1] at h2
      exact List.perm_nil.1 (by simpa [grd] using h2)
theorem two_all {Q : Fl → Prop} {x y : Fl} (hz : Q zFl) (hx : Q x) (hy : Q y) : ∀ c ∈ diffL [x] [y], Q c.o ∧ Q c.n :=
  diffL_all hz [x] [y] (by intro z hz; rw [List.mem_singleton] at hz; rw [hz]; exact hx) (by intro z hz; rw [List.mem_singleton] at hz; rw [hz]; exact hy)

set_option maxHeartbeats 8000000 in
theorem changed_ct (n0 c0 : Int) (w0 : World) (H0 : Heap)
    (hn0 : -9223372036854775808 ≤ n0 ∧ n0 ≤ 9223372036854775807) (hc0 : -9223372036854775808 ≤ c0 ∧ c0 ≤ 9223372036854775807) :
    Ct Try.prog w0 8 #[.int .i64 n0, .int .i64 c0] H0 (fun r H2 => r = .bool true ∧ Nw H0 H2) := by
  refine Ct.enter (args := [.int .i64 n0, .int .i64 c0]) Try.func8 rfl rfl rfl ?_
  intro Q0 hret
  have hm0 : Nw H0 H0 := Mo.refl _ _
  refine CW.seq (fun K1 hK1 hE1 => ?_)
  refine CW.region ?_
  refine LR.v (Y.assign rfl rfl) (Wd.u rfl) rfl rfl ?_
  refine LR.nil ?_
  refine hK1 _ _ ?_
  refine CW.seq (fun K2 hK2 hE2 => ?_)
  refine CW.seq (fun K3 hK3 hE3 => ?_)
  refine CW.region ?_
  -- call selvage/selvagelaw16.known
  refine LR.call rfl Try.call10 rfl (Wd.u rfl) rfl rfl (known_ct w0 _) (fun v10 H10 r10 => ?_)
  obtain ⟨rfl, hs10⟩ := r10
  replace hm0 := hm0.tr hs10
  have hz1 := hs10.size
  refine LR.v (Y.not rfl rfl) (Wd.u rfl) rfl rfl ?_
  refine LR.nil ?_
  refine hK3 _ _ ?_
  refine CW.cond_f rfl ?_
  refine CW.skip ?_
  refine hK2 _ _ ?_
  refine CW.seq (fun K4 hK4 hE4 => ?_)
  refine CW.region ?_
  refine LR.v (Y.move rfl rfl) (Wd.u rfl) rfl rfl ?_
  -- call selvage/selvagelaw16.within
  refine LR.call rfl Try.call20 rfl (Wd.u rfl) rfl rfl (within_ct _ _ w0 _ (by decide) hn0) (fun v13 H13 r13 => ?_)
  obtain ⟨k13, rfl, hk13, hs13⟩ := r13
  replace hm0 := hm0.tr hs13
  have hz2 := hs13.size
  obtain ⟨n, hn, hn1, hn2⟩ : ∃ n : Nat, n = 1 + k13 ∧ 1 ≤ n ∧ n ≤ 30 := ⟨_, rfl, by omega, by omega⟩
  refine LR.v (Y.cast (v2 := .int .i64 n) (Y.addi rfl rfl rfl (by omega)) (ivv (by omega))) (Wd.u rfl) rfl rfl ?_
  refine LR.v (Y.assign rfl rfl) (Wd.u rfl) rfl rfl ?_
  refine LR.nil ?_
  refine hK4 _ _ ?_
  refine CW.seq (fun K5 hK5 hE5 => ?_)
  refine CW.region ?_
  refine LR.v (Y.move rfl rfl) (Wd.u rfl) rfl rfl ?_
  refine LR.v (Y.move rfl rfl) (Wd.u rfl) rfl rfl ?_
  refine LR.v (Y.addi rfl rfl rfl (by omega)) (Wd.u rfl) rfl rfl ?_
  -- call selvage/selvagelaw16.within
  refine LR.call rfl Try.call20 rfl (Wd.u rfl) rfl rfl (within_ct _ _ w0 _ (by omega) hc0) (fun v18 H18 r18 => ?_)
  obtain ⟨c, rfl, hk18, hs18⟩ := r18
  replace hm0 := hm0.tr hs18
  have hz3 := hs18.size
  refine LR.v (Y.assign rfl rfl) (Wd.u rfl) rfl rfl ?_
  refine LR.nil ?_
  refine hK5 _ _ ?_
  refine CW.seq (fun K6 hK6 hE6 => ?_)
  refine CW.region ?_
  refine LR.v (Y.assign rfl rfl) (Wd.u rfl) rfl rfl ?_
  refine LR.v (Y.assign rfl rfl) (Wd.u rfl) rfl rfl ?_
  refine LR.nil ?_
  refine hK6 _ _ ?_
  refine CW.seq (fun K7 hK7 hE7 => ?_)
  refine CW.seq (fun K8 hK8 hE8 => ?_)
  refine CW.region ?_
  refine LR.v (Y.assign rfl rfl) (Wd.u rfl) rfl rfl ?_
  refine LR.nil ?_
  refine hK8 _ _ ?_
  refine CW.block (fun K9 hK9 hX9 hE9 => ?_)
  refine CW.loop (fun (s_ : (Nat) × (SV) × (Nat) × (SV) × (Nat)) => match s_ with | (i, sa, ka, sb, kb) => [(0, .int .i64 n), (1, .int .i64 c), (5, sa.v), (6, sb.v), (7, .int .i64 i)])
    (fun (s_ : (Nat) × (SV) × (Nat) × (SV) × (Nat)) (H : Heap) => match s_ with | (i, sa, ka, sb, kb) => (i ≤ n) ∧ (Ow ka 5 H fB 1 sa.v (byt 0 i)) ∧ (Ow kb 5 H fB 1 sb.v (byt c i)) ∧ ((byt 0 i).length ≤ 100 ∧ (byt c i).length ≤ 100 ∧ (byt 0 i).length ≤ 3 * i ∧ (byt c i).length ≤ 3 * i) ∧ (Nx 0 H18.size ka) ∧ (Nx 0 H18.size kb) ∧ (Dj ka kb) ∧ Nw H18 H)
    (fun (s_ : (Nat) × (SV) × (Nat) × (SV) × (Nat)) => match s_ with | (i, sa, ka, sb, kb) => n - i) (0, zSV, 0, zSV, 0) ⟨rfl, rfl, rfl, rfl, rfl, trivial⟩ ?_ ?_
  ·
    exact ⟨(by omega), Ow.nil fB_len fB_one, Ow.nil fB_len fB_one, (by simp [byt, lns]), Nx.refl _ _, Nx.refl _ _, Dj.z, Mo.refl _ _⟩
  rintro ⟨i, sa, ka, sb, kb⟩ HL1 hI1 K10 hN10 hE10
  obtain ⟨hi, oa, ob, hbl, nxl_oa, nxl_ob, dj_oa_ob, hlm1⟩ := hI1
  have nx1 : Nx 0 H0.size ka := Nx.tr (Nx.refl 0 _) nxl_oa hm0.size
  have nx2 : Nx 0 H0.size kb := Nx.tr (Nx.refl 0 _) nxl_ob hm0.size
  replace hm0 := hm0.tr hlm1
  have hz4 := hlm1.size
  have hle_oa := oa.le
  have hle_ob := ob.le
  have dj3 := dj_oa_ob
  have nx4 := nxl_oa
  have nx5 := nxl_ob
  refine CW.seq (fun K11 hK11 hE11 => ?_)
  refine CW.seq (fun K12 hK12 hE12 => ?_)
  refine CW.region ?_
  refine LR.v (Y.move rfl rfl) (Wd.u rfl) rfl rfl ?_
  refine LR.v (Y.move rfl rfl) (Wd.u rfl) rfl rfl ?_
  refine LR.v (Y.lss rfl rfl rfl) (Wd.u rfl) rfl rfl ?_
  refine LR.nil ?_
  refine hK12 _ _ ?_
  refine CW.condp rfl (fun c21 => ?_) (fun c21 => ?_)
  ·
    refine CW.skip ?_
    refine hK11 _ _ ?_
    refine CW.seq (fun K13 hK13 hE13 => ?_)
    refine CW.block (fun K14 hK14 hX14 hE14 => ?_)
    refine CW.seq (fun K15 hK15 hE15 => ?_)
    refine CW.region ?_
    refine LR.v (Y.move rfl rfl) (Wd.u rfl) rfl rfl ?_
    refine LR.v (Y.move rfl rfl) (Wd.u rfl) rfl rfl ?_
    refine LR.v (Y.addi rfl rfl rfl (by omega)) (Wd.u rfl) rfl rfl ?_
    refine LR.v (Y.cast (v2 := .int .u8 (c65 i).toNat) (Y.conv_u8 rfl Try.runUnderlying3 Try.runUnderlying5 rfl) (rfl)) (Wd.u rfl) rfl rfl ?_
    refine LR.z (Z.litw _ ([c65 i, 10]) rfl inf22 rfl rfl rfl (by decide) (by decide) fB_len fB_one (rfl)) (Wd.u rfl) rfl rfl (fun v28 H28 r28 => ?_)
    obtain ⟨nw28, hs28, ob28, hH28⟩ := r28
    have hzs28 : H28.size = HL1.size + 1 := by rw [hH28]; simp
    have dj6 : Dj ka (HL1.size + 1) := Dj.new oa.le
    have dj7 : Dj kb (HL1.size + 1) := Dj.new ob.le
    have nx8 : Nx 0 H0.size (HL1.size + 1) := Nx.new hm0.size
    have nx9 : Nx 0 H18.size (HL1.size + 1) := Nx.new hlm1.size
    replace oa := oa.nw hs28
    replace ob := ob.nw hs28
    replace hm0 := hm0.tr hs28
    replace hlm1 := hlm1.tr hs28
    have hz5 := hs28.size
    refine LR.z (Z.apnd oa nw28.rd rfl inf22 rfl rfl (by simp; omega) (by simp; omega)) (Wd.u rfl) rfl rfl (fun v29 H29 r29 => ?_)
    obtain ⟨k29, oa, hk29, hs29⟩ := r29
    replace hk29 : Nx ka H28.size k29 := hk29
    replace hs29 := hs29.md
    have dj10 : Dj kb k29 := Dj.app (dj3.symm) ob.le hk29
    have dj11 : Dj (HL1.size + 1) k29 := Dj.app (dj6.symm) nw28.le hk29
    have nx12 : Nx 0 H0.size k29 := Nx.tr (nx1) hk29 hm0.size
    have nx13 : Nx 0 H18.size k29 := Nx.tr (nx4) hk29 hlm1.size
    replace ob := ob.upL hs29 (DL.cons dj3.symm DL.nil)
    replace nw28 := nw28.upL hs29 (DL.cons dj6.symm DL.nil)
    replace hm0 := (Mo.trL (ks := []) (hm0.mdn []) hs29 (MIL.cons (MI.app MI.z (nx1) (Nat.le_refl _)) MIL.nil)).nil
    replace hlm1 := (Mo.trL (ks := []) (hlm1.mdn []) hs29 (MIL.cons (MI.app MI.z (nx4) (Nat.le_refl _)) MIL.nil)).nil
    have hz6 := hs29.size
    have hle_oa := oa.le
    obtain ⟨s29, rfl⟩ : ∃ s : SV, v29 = s.v := ⟨toSV v29, oa.sv.symm⟩
    refine LR.v (Y.assign rfl rfl) (Wd.u rfl) rfl rfl ?_
    refine LR.nil ?_
    refine hK15 _ _ ?_
    refine CW.seq (fun K16 hK16 hE16 => ?_)
    refine CW.region ?_
    refine LR.v (Y.move rfl rfl) (Wd.u rfl) rfl rfl ?_
    refine LR.v (Y.move rfl rfl) (Wd.u rfl) rfl rfl ?_
    refine LR.v (Y.lss rfl rfl rfl) (Wd.u rfl) rfl rfl ?_
    refine LR.nil ?_
    refine hK16 _ _ ?_
    refine CW.condp rfl (fun c32 => ?_) (fun c32 => ?_)
    ·
      refine CW.region ?_
      refine LR.v (Y.move rfl rfl) (Wd.u rfl) rfl rfl ?_
      refine LR.v (Y.move rfl rfl) (Wd.u rfl) rfl rfl ?_
      refine LR.v (Y.addi rfl rfl rfl (by omega)) (Wd.u rfl) rfl rfl ?_
      refine LR.v (Y.cast (v2 := .int .u8 (c65 i).toNat) (Y.conv_u8 rfl Try.runUnderlying3 Try.runUnderlying5 rfl) (rfl)) (Wd.u rfl) rfl rfl ?_
      refine LR.z (Z.litw _ ([c65 i, 33, 10]) rfl inf22 rfl rfl rfl (by decide) (by decide) fB_len fB_one (rfl)) (Wd.u rfl) rfl rfl (fun v37 H37 r37 => ?_)
      obtain ⟨nw37, hs37, ob37, hH37⟩ := r37
      have hzs37 : H37.size = H29.size + 1 := by rw [hH37]; simp
      have dj14 : Dj k29 (H29.size + 1) := Dj.new oa.le
      have dj15 : Dj kb (H29.size + 1) := Dj.new ob.le
      have nx16 : Nx 0 H0.size (H29.size + 1) := Nx.new hm0.size
      have nx17 : Nx 0 H18.size (H29.size + 1) := Nx.new hlm1.size
      replace oa := oa.nw hs37
      replace ob := ob.nw hs37
      replace hm0 := hm0.tr hs37
      replace hlm1 := hlm1.tr hs37
      have hz7 := hs37.size
      refine LR.z (Z.apnd ob nw37.rd rfl inf22 rfl rfl (by simp; omega) (by simp; omega)) (Wd.u rfl) rfl rfl (fun v38 H38 r38 => ?_)
      obtain ⟨k38, ob, hk38, hs38⟩ := r38
      replace hk38 : Nx kb H37.size k38 := hk38
      replace hs38 := hs38.md
      have dj18 : Dj k29 k38 := Dj.app (dj10.symm) oa.le hk38
      have dj19 : Dj (H29.size + 1) k38 := Dj.app (dj15.symm) nw37.le hk38
      have nx20 : Nx 0 H0.size k38 := Nx.tr (nx2) hk38 hm0.size
      have nx21 : Nx 0 H18.size k38 := Nx.tr (nx5) hk38 hlm1.size
      replace oa := oa.upL hs38 (DL.cons dj10.symm DL.nil)
      replace nw37 := nw37.upL hs38 (DL.cons dj15.symm DL.nil)
      replace hm0 := (Mo.trL (ks := []) (hm0.mdn []) hs38 (MIL.cons (MI.app MI.z (nx2) (Nat.le_refl _)) MIL.nil)).nil
      replace hlm1 := (Mo.trL (ks := []) (hlm1.mdn []) hs38 (MIL.cons (MI.app MI.z (nx5) (Nat.le_refl _)) MIL.nil)).nil
      have hz8 := hs38.size
      have hle_ob := ob.le
      obtain ⟨s38, rfl⟩ : ∃ s : SV, v38 = s.v := ⟨toSV v38, ob.sv.symm⟩
      refine LR.v (Y.assign rfl rfl) (Wd.u rfl) rfl rfl ?_
      refine LR.nil ?_
      refine hK14 _ _ ?_
      refine hK13 _ _ ?_
      refine CW.region ?_
      refine LR.v (Y.move rfl rfl) (Wd.u rfl) rfl rfl ?_
      refine LR.v (Y.addi rfl rfl rfl (by omega)) (Wd.u rfl) rfl rfl ?_
      refine LR.v (Y.assign rfl rfl) (Wd.u rfl) rfl rfl ?_
      refine LR.nil ?_
      have hl0 : ln 0 i = [c65 i, 10] := if_neg (Nat.not_lt_zero _)
      have hl1 : ln c i = [c65 i, 33, 10] := if_pos (by omega)
      refine QN.sub (hN10 (i + 1, s29, k29, s38, k38) _ ?_ ?_) ⟨(iv (by omega)), (iv (by omega)), rfl, rfl, (iv (by omega)), trivial⟩
      · exact ⟨(by omega), by rw [byt_succ, hl0]; exact oa, by rw [byt_succ, hl1]; exact ob, (by rw [byt_succ, byt_succ, hl0, hl1, List.length_append, List.length_append]; simp only [List.length_cons, List.length_nil]; omega), nx13, nx21, dj18, hlm1⟩
      · first | omega | (simp only; omega) | (simp; omega)
    ·
      refine CW.region ?_
      refine LR.v (Y.move rfl rfl) (Wd.u rfl) rfl rfl ?_
      refine LR.v (Y.move rfl rfl) (Wd.u rfl) rfl rfl ?_
      refine LR.v (Y.addi rfl rfl rfl (by omega)) (Wd.u rfl) rfl rfl ?_
      refine LR.v (Y.cast (v2 := .int .u8 (c65 i).toNat) (Y.conv_u8 rfl Try.runUnderlying3 Try.runUnderlying5 rfl) (rfl)) (Wd.u rfl) rfl rfl ?_
      refine LR.z (Z.litw _ ([c65 i, 10]) rfl inf22 rfl rfl rfl (by decide) (by decide) fB_len fB_one (rfl)) (Wd.u rfl) rfl rfl (fun v43 H43 r43 => ?_)
      obtain ⟨nw43, hs43, ob43, hH43⟩ := r43
      have hzs43 : H43.size = H29.size + 1 := by rw [hH43]; simp
      have dj22 : Dj k29 (H29.size + 1) := Dj.new oa.le
      have dj23 : Dj kb (H29.size + 1) := Dj.new ob.le
      have nx24 : Nx 0 H0.size (H29.size + 1) := Nx.new hm0.size
      have nx25 : Nx 0 H18.size (H29.size + 1) := Nx.new hlm1.size
      replace oa := oa.nw hs43
      replace ob := ob.nw hs43
      replace hm0 := hm0.tr hs43
      replace hlm1 := hlm1.tr hs43
      have hz9 := hs43.size
      refine LR.z (Z.apnd ob nw43.rd rfl inf22 rfl rfl (by simp; omega) (by simp; omega)) (Wd.u rfl) rfl rfl (fun v44 H44 r44 => ?_)
      obtain ⟨k44, ob, hk44, hs44⟩ := r44
      replace hk44 : Nx kb H43.size k44 := hk44
      replace hs44 := hs44.md
      have dj26 : Dj k29 k44 := Dj.app (dj10.symm) oa.le hk44
      have dj27 : Dj (H29.size + 1) k44 := Dj.app (dj23.symm) nw43.le hk44
      have nx28 : Nx 0 H0.size k44 := Nx.tr (nx2) hk44 hm0.size
      have nx29 : Nx 0 H18.size k44 := Nx.tr (nx5) hk44 hlm1.size
      replace oa := oa.upL hs44 (DL.cons dj10.symm DL.nil)
      replace nw43 := nw43.upL hs44 (DL.cons dj23.symm DL.nil)
      replace hm0 := (Mo.trL (ks := []) (hm0.mdn []) hs44 (MIL.cons (MI.app MI.z (nx2) (Nat.le_refl _)) MIL.nil)).nil
      replace hlm1 := (Mo.trL (ks := []) (hlm1.mdn []) hs44 (MIL.cons (MI.app MI.z (nx5) (Nat.le_refl _)) MIL.nil)).nil
      have hz10 := hs44.size
      have hle_ob := ob.le
      obtain ⟨s44, rfl⟩ : ∃ s : SV, v44 = s.v := ⟨toSV v44, ob.sv.symm⟩
      refine LR.v (Y.assign rfl rfl) (Wd.u rfl) rfl rfl ?_
      refine LR.nil ?_
      refine hK14 _ _ ?_
      refine hK13 _ _ ?_
      refine CW.region ?_
      refine LR.v (Y.move rfl rfl) (Wd.u rfl) rfl rfl ?_
      refine LR.v (Y.addi rfl rfl rfl (by omega)) (Wd.u rfl) rfl rfl ?_
      refine LR.v (Y.assign rfl rfl) (Wd.u rfl) rfl rfl ?_
      refine LR.nil ?_
      have hl0 : ln 0 i = [c65 i, 10] := if_neg (Nat.not_lt_zero _)
      have hl1 : ln c i = [c65 i, 10] := if_neg (by omega)
      refine QN.sub (hN10 (i + 1, s29, k29, s44, k44) _ ?_ ?_) ⟨(iv (by omega)), (iv (by omega)), rfl, rfl, (iv (by omega)), trivial⟩
      · exact ⟨(by omega), by rw [byt_succ, hl0]; exact oa, by rw [byt_succ, hl1]; exact ob, (by rw [byt_succ, byt_succ, hl0, hl1, List.length_append, List.length_append]; simp only [List.length_cons, List.length_nil]; omega), nx13, nx29, dj26, hlm1⟩
      · first | omega | (simp only; omega) | (simp; omega)
  ·
    have hin : i = n := by omega
    rw [hin] at oa ob hbl
    obtain ⟨hb1, hb2, _, _⟩ := hbl
    have hbp0 : 0 < (byt 0 n).length := by rw [(byt_len 0 n (by omega)).1]; omega
    have hbp1 : 0 < (byt c n).length := by rw [(byt_len c n (by omega)).1]; omega
    have hsc := score_chg (c := c) hn1 (by omega) (by omega)
    refine CW.exit (hE11 (.exit 0) nofun _ _ (hE10 (.exit 0) nofun _ _ (hX9 _ _ ?_)))
    refine hK7 _ _ ?_
    refine CW.seq (fun K17 hK17 hE17 => ?_)
    refine CW.region ?_
    refine LR.v (Y.move rfl rfl) (Wd.u rfl) rfl rfl ?_
    refine LR.v (Y.move rfl rfl) (Wd.u rfl) rfl rfl ?_
    refine LR.v (Y.subi rfl rfl rfl (by omega)) (Wd.u rfl) rfl rfl ?_
    refine LR.v (Y.muli rfl rfl rfl (by omega)) (Wd.u rfl) rfl rfl ?_
    refine LR.v (Y.move rfl rfl) (Wd.u rfl) rfl rfl ?_
    refine LR.v (Y.muli rfl rfl rfl (by omega)) (Wd.u rfl) rfl rfl ?_
    refine LR.v (Y.cast (v2 := .int .i64 (200 * (n - c) / (2 * n) : Nat)) (Y.quoi rfl rfl rfl (by omega)) (ivv (quo_cast (by omega)))) (Wd.u rfl) rfl rfl ?_
    refine LR.v (Y.assign rfl rfl) (Wd.u rfl) rfl rfl ?_
    refine LR.nil ?_
    refine hK17 _ _ ?_
    refine CW.seq (fun K18 hK18 hE18 => ?_)
    refine CW.region ?_
    refine LR.v (Y.move rfl rfl) (Wd.u rfl) rfl rfl ?_
    refine LR.v (Y.build (v := .agg (fFl ⟨pO, 1, byt 0 n, sa⟩).toArray) rfl rfl (by intro w; kernel_rfl)) (Wd.u rfl) rfl rfl ?_
    refine LR.z (Z.litw _ ([(⟨pO, 1, byt 0 n, sa⟩ : Fl)]) rfl inf26 rfl rfl rfl (by decide) (by decide) fFl_len fFl_one (rfl)) (Wd.u rfl) rfl rfl (fun v54 H54 r54 => ?_)
    obtain ⟨of, hs54, ob54, hH54⟩ := r54
    have hzs54 : H54.size = HL1.size + 1 := by rw [hH54]; simp
    have dj30 : Dj ka (HL1.size + 1) := Dj.new oa.le
    have dj31 : Dj kb (HL1.size + 1) := Dj.new ob.le
    have nx32 : Nx 0 H0.size (HL1.size + 1) := Nx.new hm0.size
    replace oa := oa.nw hs54
    replace ob := ob.nw hs54
    replace hm0 := hm0.tr hs54
    have hz11 := hs54.size
    refine LR.v (Y.move rfl rfl) (Wd.u rfl) rfl rfl ?_
    refine LR.v (Y.build (v := .agg (fFl ⟨pT, 2, byt c n, sb⟩).toArray) rfl rfl (by intro w; kernel_rfl)) (Wd.u rfl) rfl rfl ?_
    refine LR.z (Z.litw _ ([(⟨pT, 2, byt c n, sb⟩ : Fl)]) rfl inf26 rfl rfl rfl (by decide) (by decide) fFl_len fFl_one (rfl)) (Wd.u rfl) rfl rfl (fun v57 H57 r57 => ?_)
    obtain ⟨og, hs57, ob57, hH57⟩ := r57
    have hzs57 : H57.size = H54.size + 1 := by rw [hH57]; simp
    have dj33 : Dj ka (H54.size + 1) := Dj.new oa.le
    have dj34 : Dj kb (H54.size + 1) := Dj.new ob.le
    have dj35 : Dj (HL1.size + 1) (H54.size + 1) := Dj.new of.le
    have nx36 : Nx 0 H0.size (H54.size + 1) := Nx.new hm0.size
    replace oa := oa.nw hs57
    replace ob := ob.nw hs57
    replace of := of.nw hs57
    replace hm0 := hm0.tr hs57
    have hz12 := hs57.size
    -- call selvage/selvageref15.Diff
    refine LR.call rfl Try.call14 rfl (Wd.u rfl) rfl rfl (diff_ct v54 v57 [⟨pO, 1, byt 0 n, sa⟩] [⟨pT, 2, byt c n, sb⟩] w0 _ of.rd.any og.rd.any (fun x h => by rw [List.mem_singleton] at h; rw [h]; exact flR1 oa.rd (by simp)) (fun x h => by rw [List.mem_singleton] at h; rw [h]; exact flR1 ob.rd (by simp)) (by simp) (by simp)) (fun v58 H58 r58 => ?_)
    obtain ⟨vc_, kc, rfl, oc, hkc, hdl, hs58⟩ := r58
    have dj37 : Dj ka kc := Dj.app (Dj.z) oa.le hkc
    have dj38 : Dj kb kc := Dj.app (Dj.z) ob.le hkc
    have dj39 : Dj (HL1.size + 1) kc := Dj.app (Dj.z) of.le hkc
    have dj40 : Dj (H54.size + 1) kc := Dj.app (Dj.z) og.le hkc
    have nx41 : Nx 0 H0.size kc := Nx.tr (Nx.refl 0 _) hkc hm0.size
    replace oa := oa.nw hs58
    replace ob := ob.nw hs58
    replace of := of.nw hs58
    replace og := og.nw hs58
    replace hm0 := hm0.tr hs58
    have hz13 := hs58.size
    have hle_oc := oc.le
    -- call selvage/rename.Detect
    refine LR.call rfl Try.call17 rfl (Wd.u rfl) rfl rfl (detect_ct v58 (diffL [⟨pO, 1, byt 0 n, sa⟩] [⟨pT, 2, byt c n, sb⟩]) w0 _ oc.rd.any (fun x h => (two_all (Q := FlR (fun _ => True) _) (zFl_R _) (flR1 oa.rd (.inl rfl)) (flR1 ob.rd (.inr rfl)) x h).1) (fun x h => (two_all (Q := FlR (fun _ => True) _) (zFl_R _) (flR1 oa.rd (.inl rfl)) (flR1 ob.rd (.inr rfl)) x h).2) (Nat.le_trans hdl (by simp)) (by refine two_all (Q := fun x => x.p.length ≤ 9223372036854775806 ∧ x.d.length ≤ 1048576) (by decide) ⟨by simp, ?_⟩ ⟨by simp, ?_⟩ <;> (simp only; omega))) (fun v59 H59 r59 => ?_)
    obtain ⟨vd_, kd, out, rfl, od, hkd, hdet, hs59⟩ := r59
    have dj42 : Dj ka kd := Dj.app (Dj.z) oa.le hkd
    have dj43 : Dj kb kd := Dj.app (Dj.z) ob.le hkd
    have dj44 : Dj (HL1.size + 1) kd := Dj.app (Dj.z) of.le hkd
    have dj45 : Dj (H54.size + 1) kd := Dj.app (Dj.z) og.le hkd
    have dj46 : Dj kc kd := Dj.app (Dj.z) oc.le hkd
    have nx47 : Nx 0 H0.size kd := Nx.tr (Nx.refl 0 _) hkd hm0.size
    replace oa := oa.nw hs59
    replace ob := ob.nw hs59
    replace of := of.nw hs59
    replace og := og.nw hs59
    replace oc := oc.nw hs59
    replace hm0 := hm0.tr hs59
    have hz14 := hs59.size
    have hle_od := od.le
    have hout := chg_det hbp0 hbp1 hdet
    rw [hsc] at hout
    refine LR.v (Y.assign rfl rfl) (Wd.u rfl) rfl rfl ?_
    refine LR.nil ?_
    refine hK18 _ _ ?_
    refine CW.seq (fun K19 hK19 hE19 => ?_)
    refine CW.seq (fun K20 hK20 hE20 => ?_)
    refine CW.region ?_
    refine LR.v (Y.move rfl rfl) (Wd.u rfl) rfl rfl ?_
    refine LR.v (Y.move rfl rfl) (Wd.u rfl) rfl rfl ?_
    -- call selvage/rename.Score
    refine LR.call rfl Try.call11 rfl (Wd.u rfl) rfl rfl (pscore_ct sa.v sb.v (byt 0 n) (byt c n) w0 _ oa.rd.any ob.rd.any (by omega) (by omega)) (fun v62 H62 r62 => ?_)
    obtain ⟨rfl, hs62⟩ := r62
    replace oa := oa.nw hs62
    replace ob := ob.nw hs62
    replace of := of.nw hs62
    replace og := og.nw hs62
    replace oc := oc.nw hs62
    replace od := od.nw hs62
    replace hm0 := hm0.tr hs62
    have hz15 := hs62.size
    refine LR.v (Y.move rfl rfl) (Wd.u rfl) rfl rfl ?_
    refine LR.v ((Y.neq rfl rfl rfl).isF (by rw [hsc]; simp)) (Wd.u rfl) rfl rfl ?_
    refine LR.nil ?_
    refine hK20 _ _ ?_
    refine CW.cond_f rfl ?_
    refine CW.skip ?_
    refine hK19 _ _ ?_
    refine CW.seq (fun K21 hK21 hE21 => ?_)
    refine CW.seq (fun K22 hK22 hE22 => ?_)
    refine CW.region ?_
    refine LR.v (Y.move rfl rfl) (Wd.u rfl) rfl rfl ?_
    refine LR.v (Y.lss rfl rfl rfl) (Wd.u rfl) rfl rfl ?_
    refine LR.nil ?_
    refine hK22 _ _ ?_
    refine CW.condp rfl (fun c66 => ?_) (fun c66 => ?_)
    ·
      rw [if_neg (by omega)] at hout
      subst hout
      refine CW.seq (fun K23 hK23 hE23 => ?_)
      refine CW.region ?_
      refine LR.v (Y.move rfl rfl) (Wd.u rfl) rfl rfl ?_
      refine LR.v (Y.len od.rd rfl Try.runUnderlying31 rfl) (Wd.u rfl) rfl rfl ?_
      refine LR.v ((Y.eql rfl rfl rfl).isT (rfl)) (Wd.u rfl) rfl rfl ?_
      refine LR.v (Y.assign rfl rfl) (Wd.u rfl) rfl rfl ?_
      refine LR.nil ?_
      refine hK23 _ _ ?_
      refine CW.ret (hE21 .ret nofun _ _ (hret .ret (.inr rfl) _ _ _ (res1 rfl rfl) ?_))
      exact ⟨rfl, hm0⟩
    ·
      rw [if_pos (by omega)] at hout
      subst hout
      refine CW.skip ?_
      refine hK21 _ _ ?_
      refine CW.seq (fun K24 hK24 hE24 => ?_)
      refine CW.region ?_
      refine LR.v (Y.move rfl rfl) (Wd.u rfl) rfl rfl ?_
      refine LR.v (Y.len od.rd rfl Try.runUnderlying31 rfl) (Wd.u rfl) rfl rfl ?_
      refine LR.v ((Y.eql rfl rfl rfl).isT (rfl)) (Wd.u rfl) rfl rfl ?_
      refine LR.v (Y.move rfl rfl) (Wd.u rfl) rfl rfl ?_
      refine LR.v (Y.move rfl rfl) (Wd.g rfl rfl rfl) rfl rfl ?_
      refine LR.v (Y.owAddr od (0) rfl Try.runUnderlying31 Try.sizeOf38 rfl rfl (by first | rfl | omega) (by simp)) (Wd.g rfl rfl rfl) rfl rfl ?_
      refine LR.v (Y.loadN (od.pt (j := 0) (by simp)) rfl Try.isAgg38 Try.sizeOf38 (rfl) rfl) (Wd.g rfl rfl rfl) rfl rfl ?_
      refine LR.v (Y.move rfl rfl) (Wd.g rfl rfl rfl) rfl rfl ?_
      refine LR.v (Y.build (v := .agg (fPr ⟨pO, pT, (200 * (n - c) / (2 * n) : Nat)⟩).toArray) rfl rfl (by intro w; kernel_rfl)) (Wd.g rfl rfl rfl) rfl rfl ?_
      refine LR.v ((Y.aeql rfl Try.eqGuardType38 (fun w => eqPr _ _ 9998 w) rfl rfl).isT (rfl)) (Wd.g rfl rfl rfl) rfl rfl ?_
      refine LR.v (Y.pick_t rfl rfl rfl) (Wd.u rfl) rfl rfl ?_
      refine LR.v (Y.assign rfl rfl) (Wd.u rfl) rfl rfl ?_
      refine LR.nil ?_
      refine hK24 _ _ ?_
      refine CW.ret (hret .ret (.inr rfl) _ _ _ (res1 rfl rfl) ?_)
      exact ⟨rfl, hm0⟩

end Go.Proofs.Ytclhnkmkejijjaa.RenK
