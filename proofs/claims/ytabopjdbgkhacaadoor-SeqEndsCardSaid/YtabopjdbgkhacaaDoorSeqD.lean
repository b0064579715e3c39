/-
  Sequences: written as bytes; a transaction that bears one alone.
-/
import Derived.Test.YtabopjdbgkhacaaDoorSeqC
import Derived.Test.YtabopjdbgkhacaaDoorNum
namespace Go.Proofs.YtabopjdbgkhacaaDoor.SeqD
open Go.Proofs.YtabopjdbgkhacaaDoor.E Go.RowKit Go.Proofs.YtabopjdbgkhacaaDoor.NamA Go.Proofs.YtabopjdbgkhacaaDoor.NamB Go.Proofs.YtabopjdbgkhacaaDoor.NamC Go.Proofs.YtabopjdbgkhacaaDoor.NamD Go.Proofs.YtabopjdbgkhacaaDoor.SeqA Go.Proofs.YtabopjdbgkhacaaDoor.SeqB Go.Proofs.YtabopjdbgkhacaaDoor.SeqC Go.Proofs.YtabopjdbgkhacaaDoor.Num
set_option maxRecDepth 20000
set_option linter.unusedVariables false
set_option linter.unusedSimpArgs false
set_option linter.unusedSectionVars false
set_option maxRecDepth 100000 in
theorem inf57 : Inf Tryd.prog 57 5 1 1 := ⟨Tryd.underlying57, _, _, rfl, rfl, rfl, rfl, rfl⟩

/-- one not above another: what is written is short enough -/
structure EncW (x : Sq) : Prop where
  k : 0 ≤ x.k ∧ x.k ≤ 255
  br : x.br.length ≤ 255
  td : x.td.length ≤ 100
  dn : 0 ≤ x.dn ∧ x.dn ≤ 65535
  md : 0 ≤ x.md ∧ x.md ≤ 65535
  dd : ∀ t ∈ x.td, 0 ≤ t.d ∧ t.d ≤ 255
theorem todoE_all : ∀ {l : List Td}, todoE l = 0 → ∀ t ∈ l, 1 ≤ t.d ∧ t.d ≤ 3
  | [], _, t, h => by cases h
  | a :: l, h, t, ht => by
    rw [todoE] at h
    by_cases e : stepE a ≠ 0
    · rw [if_pos e] at h; exact absurd h e
    · rw [if_neg e] at h
      rcases List.mem_cons.1 ht with rfl | ht
      · apply Decidable.byContradiction
        intro h3
        rw [stepE_3 h3] at e; exact e (by decide)
      · exact todoE_all h t ht
theorem enc_of {x : Sq} (h : seqE x = 0) : EncW x := by
  unfold seqE at h
  split at h
  · cases h
  rename_i h1
  split at h
  · cases h
  rename_i h2
  split at h
  · cases h
  rename_i h3
  split at h
  · cases h
  rename_i h4
  have ha : argB x = true := by cases e : argB x with | true => rfl | false => exact absurd e h3
  obtain ⟨_, _, a3, a4, a5, a6, _⟩ := of_decide_eq_true ha
  have hb := ((chk_iff x.br).1 (by simpa using h2)).1
  have hk : x.k = 1 ∨ x.k = 2 := Decidable.not_not.1 h1
  exact ⟨by omega, by omega, by omega, by omega, by omega, fun t ht => by have := todoE_all h t ht; omega⟩

theorem moves0_ct  (w0 : World) (H0 : Heap)
     :
    Ct Tryd.prog w0 29 #[.agg fZ.toArray, NIL] H0 (fun r H2 => r = .int .i64 0 ∧ Nw H0 H2) := by
  refine Ct.enter (args := [.agg fZ.toArray, NIL]) Tryd.func29 rfl rfl rfl ?_
  intro Q0 hret
  have hm0 : Nw H0 H0 := Mo.refl _ _
  refine CW.seq (fun K1 hK1 hE1 => ?_)
  refine CW.region ?_
  refine LR.z (Z.boxv rfl rfl) (Wd.u rfl) rfl rfl (fun v2 H2 r2 => ?_)
  obtain ⟨rfl, vz, hs2, ob2, hH2⟩ := r2
  have hzs2 : H2.size = H0.size + 1 := by rw [hH2]; simp
  have nx1 : Nx 0 H0.size (H0.size + 1) := Nx.new hm0.size
  replace hm0 := hm0.tr hs2
  have hz1 := hs2.size
  replace vz : Var 46 H2 H0.size (fZ) := vz
  refine LR.v (Y.assign rfl rfl) (Wd.u rfl) rfl rfl ?_
  refine LR.nil ?_
  refine hK1 _ _ ?_
  refine CW.seq (fun K2 hK2 hE2 => ?_)
  refine CW.region ?_
  refine LR.v (Y.loadN vz.pt rfl Tryd.isAgg46 Tryd.sizeOf46 (by simp [fZ, fQ_len]) rfl) (Wd.u rfl) rfl rfl ?_
  -- call selvage/refs.table
  refine LR.call rfl Tryd.call42 rfl (Wd.u rfl) rfl rfl (table0_ct w0 _) (fun v15 H15 r15 => ?_)
  obtain ⟨v15_, rfl, mo, hs15⟩ := r15
  replace vz := vz.nw hs15
  replace hm0 := hm0.tr hs15
  have hz2 := hs15.size
  refine LR.v (Y.assign rfl rfl) (Wd.u rfl) rfl rfl ?_
  refine LR.nil ?_
  refine hK2 _ _ ?_
  refine CW.seq (fun K3 hK3 hE3 => ?_)
  refine CW.seq (fun K4 hK4 hE4 => ?_)
  refine CW.region ?_
  refine LR.v (Y.move rfl rfl) (Wd.u rfl) rfl rfl ?_
  refine LR.v (Y.cast (v2 := .int .i64 0) (Y.len (Rd.nil (fun _ => True) _ fI 1) rfl Tryd.runUnderlying47 rfl) (rfl)) (Wd.u rfl) rfl rfl ?_
  refine LR.v (Y.move rfl rfl) (Wd.u rfl) rfl rfl ?_
  refine LR.nil ?_
  refine hK4 _ _ ?_
  refine CW.block (fun K5 hK5 hX5 hE5 => ?_)
  refine CW.loop (fun (_ : Unit) => [(1, NIL), (5, v15), (16, NIL), (17, .int .i64 0), (18, .int .i64 0)])
    (fun (_ : Unit) (H : Heap) => (True) ∧ Nw H15 H)
    (fun (_ : Unit) => 0) () ⟨rfl, rfl, rfl, rfl, rfl, trivial⟩ ?_ ?_
  ·
    exact ⟨trivial, Mo.refl _ _⟩
  intro _ HL1 hI1 K6 hN6 hE6
  obtain ⟨hT, hlm1⟩ := hI1
  replace mo := mo.nw hlm1
  replace hm0 := hm0.tr hlm1
  have hz3 := hlm1.size
  refine CW.seq (fun K7 hK7 hE7 => ?_)
  refine CW.region ?_
  refine LR.v (Y.lss rfl rfl rfl) (Wd.u rfl) rfl rfl ?_
  refine LR.nil ?_
  refine hK7 _ _ ?_
  refine CW.seq (fun K8 hK8 hE8 => ?_)
  refine CW.condp rfl (fun c19 => ?_) (fun c19 => ?_)
  ·
    exfalso; omega
  ·
    refine CW.exit (hE8 (.exit 0) nofun _ _ (hE6 (.exit 0) nofun _ _ (hX5 _ _ ?_)))
    refine hK3 _ _ ?_
    refine CW.seq (fun K9 hK9 hE9 => ?_)
    refine CW.seq (fun K10 hK10 hE10 => ?_)
    refine CW.region ?_
    refine LR.v (Y.move rfl rfl) (Wd.u rfl) rfl rfl ?_
    refine LR.v (Y.cast (v2 := .int .i64 0) (Y.len (Rd.nil (fun _ => True) _ fI 1) rfl Tryd.runUnderlying47 rfl) (rfl)) (Wd.u rfl) rfl rfl ?_
    refine LR.v (Y.move rfl rfl) (Wd.u rfl) rfl rfl ?_
    refine LR.nil ?_
    refine hK10 _ _ ?_
    refine CW.block (fun K11 hK11 hX11 hE11 => ?_)
    refine CW.loop (fun (_ : Unit) => [(1, NIL), (5, v15), (53, NIL), (54, .int .i64 0), (55, .int .i64 0)])
      (fun (_ : Unit) (H : Heap) => (True) ∧ Nw HL1 H)
      (fun (_ : Unit) => 0) () ⟨rfl, rfl, rfl, rfl, rfl, trivial⟩ ?_ ?_
    ·
      exact ⟨trivial, Mo.refl _ _⟩
    intro _ HL2 hI2 K12 hN12 hE12
    obtain ⟨hT, hlm2⟩ := hI2
    replace mo := mo.nw hlm2
    replace hm0 := hm0.tr hlm2
    have hz4 := hlm2.size
    refine CW.seq (fun K13 hK13 hE13 => ?_)
    refine CW.region ?_
    refine LR.v (Y.lss rfl rfl rfl) (Wd.u rfl) rfl rfl ?_
    refine LR.nil ?_
    refine hK13 _ _ ?_
    refine CW.seq (fun K14 hK14 hE14 => ?_)
    refine CW.condp rfl (fun c56 => ?_) (fun c56 => ?_)
    ·
      exfalso; omega
    ·
      refine CW.exit (hE14 (.exit 2) nofun _ _ (hE12 (.exit 2) nofun _ _ (hX11 _ _ ?_)))
      refine hK9 _ _ ?_
      refine CW.seq (fun K15 hK15 hE15 => ?_)
      refine CW.seq (fun K16 hK16 hE16 => ?_)
      refine CW.region ?_
      refine LR.v (Y.move rfl rfl) (Wd.u rfl) rfl rfl ?_
      refine LR.v (Y.mlen mo rfl Tryd.runUnderlying69 rfl) (Wd.u rfl) rfl rfl ?_
      refine LR.v (Y.gtr rfl rfl rfl) (Wd.u rfl) rfl rfl ?_
      refine LR.nil ?_
      refine hK16 _ _ ?_
      refine CW.condp rfl (fun c65 => ?_) (fun c65 => ?_)
      ·
        exfalso; simp at c65
      ·
        refine CW.skip ?_
        refine hK15 _ _ ?_
        refine CW.seq (fun K17 hK17 hE17 => ?_)
        refine CW.seq (fun K18 hK18 hE18 => ?_)
        refine CW.region ?_
        refine LR.v (Y.move rfl rfl) (Wd.u rfl) rfl rfl ?_
        refine LR.v (Y.cast (v2 := .int .i64 0) (Y.len (Rd.nil (fun _ => True) _ fI 1) rfl Tryd.runUnderlying47 rfl) (rfl)) (Wd.u rfl) rfl rfl ?_
        refine LR.v (Y.move rfl rfl) (Wd.u rfl) rfl rfl ?_
        refine LR.nil ?_
        refine hK18 _ _ ?_
        refine CW.block (fun K19 hK19 hX19 hE19 => ?_)
        refine CW.loop (fun (_ : Unit) => [(5, v15), (66, NIL), (67, .int .i64 0), (68, .int .i64 0)])
          (fun (_ : Unit) (H : Heap) => (True) ∧ Nw HL2 H)
          (fun (_ : Unit) => 0) () ⟨rfl, rfl, rfl, rfl, trivial⟩ ?_ ?_
        ·
          exact ⟨trivial, Mo.refl _ _⟩
        intro _ HL3 hI3 K20 hN20 hE20
        obtain ⟨hT, hlm3⟩ := hI3
        replace mo := mo.nw hlm3
        replace hm0 := hm0.tr hlm3
        have hz5 := hlm3.size
        refine CW.seq (fun K21 hK21 hE21 => ?_)
        refine CW.region ?_
        refine LR.v (Y.lss rfl rfl rfl) (Wd.u rfl) rfl rfl ?_
        refine LR.nil ?_
        refine hK21 _ _ ?_
        refine CW.seq (fun K22 hK22 hE22 => ?_)
        refine CW.condp rfl (fun c69 => ?_) (fun c69 => ?_)
        ·
          exfalso; omega
        ·
          refine CW.exit (hE22 (.exit 4) nofun _ _ (hE20 (.exit 4) nofun _ _ (hX19 _ _ ?_)))
          refine hK17 _ _ ?_
          refine CW.seq (fun K23 hK23 hE23 => ?_)
          refine CW.region ?_
          refine LR.v (Y.assign rfl rfl) (Wd.u rfl) rfl rfl ?_
          refine LR.nil ?_
          refine hK23 _ _ ?_
          refine CW.ret (hret .ret (.inr rfl) _ _ _ (res1 rfl rfl) ?_)
          exact ⟨rfl, hm0⟩

theorem memory0_ct  (w0 : World) (H0 : Heap)
     :
    Ct Tryd.prog w0 31 #[.agg fZ.toArray, NIL] H0 (fun r H2 => r = .int .i64 0 ∧ Nw H0 H2) := by
  refine Ct.enter (args := [.agg fZ.toArray, NIL]) Tryd.func31 rfl rfl rfl ?_
  intro Q0 hret
  have hm0 : Nw H0 H0 := Mo.refl _ _
  refine CW.seq (fun K1 hK1 hE1 => ?_)
  refine CW.region ?_
  refine LR.z (Z.boxv rfl rfl) (Wd.u rfl) rfl rfl (fun v2 H2 r2 => ?_)
  obtain ⟨rfl, vz, hs2, ob2, hH2⟩ := r2
  have hzs2 : H2.size = H0.size + 1 := by rw [hH2]; simp
  have nx1 : Nx 0 H0.size (H0.size + 1) := Nx.new hm0.size
  replace hm0 := hm0.tr hs2
  have hz1 := hs2.size
  replace vz : Var 46 H2 H0.size (fZ) := vz
  refine LR.v (Y.assign rfl rfl) (Wd.u rfl) rfl rfl ?_
  refine LR.nil ?_
  refine hK1 _ _ ?_
  refine CW.seq (fun K2 hK2 hE2 => ?_)
  refine CW.region ?_
  refine LR.z (Z.makeMap (fk := idV) (fv := Value.int .i64) rfl) (Wd.u rfl) rfl rfl (fun v11 H11 r11 => ?_)
  obtain ⟨mo, hs11⟩ := r11
  replace vz := vz.nw hs11
  replace hm0 := hm0.tr hs11
  have hz2 := hs11.size
  refine LR.v (Y.assign rfl rfl) (Wd.u rfl) rfl rfl ?_
  refine LR.nil ?_
  refine hK2 _ _ ?_
  refine CW.seq (fun K3 hK3 hE3 => ?_)
  refine CW.seq (fun K4 hK4 hE4 => ?_)
  refine CW.region ?_
  refine LR.v (Y.fieldAddr vz.pt rfl Tryd.runUnderlying46 rfl rfl Tryd.sizeOf44 (by decide) rfl) (Wd.u rfl) rfl rfl ?_
  refine LR.v (Y.load1 (zPt vz.pt) rfl Tryd.isAgg44 rfl) (Wd.u rfl) rfl rfl ?_
  refine LR.v (Y.cast (v2 := .int .i64 0) (Y.len (Rd.nil (fun _ => True) _ fI 1) rfl Tryd.runUnderlying44 rfl) (rfl)) (Wd.u rfl) rfl rfl ?_
  refine LR.v (Y.move rfl rfl) (Wd.u rfl) rfl rfl ?_
  refine LR.nil ?_
  refine hK4 _ _ ?_
  refine CW.block (fun K5 hK5 hX5 hE5 => ?_)
  refine CW.loop (fun (_ : Unit) => [(1, NIL), (5, v11), (13, NIL), (14, .int .i64 0), (15, .int .i64 0)])
    (fun (_ : Unit) (H : Heap) => (True) ∧ Nw H11 H)
    (fun (_ : Unit) => 0) () ⟨rfl, rfl, rfl, rfl, rfl, trivial⟩ ?_ ?_
  ·
    exact ⟨trivial, Mo.refl _ _⟩
  intro _ HL1 hI1 K6 hN6 hE6
  obtain ⟨hT, hlm1⟩ := hI1
  replace mo := mo.nw hlm1
  replace hm0 := hm0.tr hlm1
  have hz3 := hlm1.size
  refine CW.seq (fun K7 hK7 hE7 => ?_)
  refine CW.region ?_
  refine LR.v (Y.lss rfl rfl rfl) (Wd.u rfl) rfl rfl ?_
  refine LR.nil ?_
  refine hK7 _ _ ?_
  refine CW.seq (fun K8 hK8 hE8 => ?_)
  refine CW.condp rfl (fun c16 => ?_) (fun c16 => ?_)
  ·
    exfalso; omega
  ·
    refine CW.exit (hE8 (.exit 0) nofun _ _ (hE6 (.exit 0) nofun _ _ (hX5 _ _ ?_)))
    refine hK3 _ _ ?_
    refine CW.seq (fun K9 hK9 hE9 => ?_)
    refine CW.seq (fun K10 hK10 hE10 => ?_)
    refine CW.region ?_
    refine LR.v (Y.move rfl rfl) (Wd.u rfl) rfl rfl ?_
    refine LR.v (Y.cast (v2 := .int .i64 0) (Y.len (Rd.nil (fun _ => True) _ fI 1) rfl Tryd.runUnderlying44 rfl) (rfl)) (Wd.u rfl) rfl rfl ?_
    refine LR.v (Y.move rfl rfl) (Wd.u rfl) rfl rfl ?_
    refine LR.nil ?_
    refine hK10 _ _ ?_
    refine CW.block (fun K11 hK11 hX11 hE11 => ?_)
    refine CW.loop (fun (_ : Unit) => [(5, v11), (25, NIL), (26, .int .i64 0), (27, .int .i64 0)])
      (fun (_ : Unit) (H : Heap) => (True) ∧ Nw HL1 H)
      (fun (_ : Unit) => 0) () ⟨rfl, rfl, rfl, rfl, trivial⟩ ?_ ?_
    ·
      exact ⟨trivial, Mo.refl _ _⟩
    intro _ HL2 hI2 K12 hN12 hE12
    obtain ⟨hT, hlm2⟩ := hI2
    replace mo := mo.nw hlm2
    replace hm0 := hm0.tr hlm2
    have hz4 := hlm2.size
    refine CW.seq (fun K13 hK13 hE13 => ?_)
    refine CW.region ?_
    refine LR.v (Y.lss rfl rfl rfl) (Wd.u rfl) rfl rfl ?_
    refine LR.nil ?_
    refine hK13 _ _ ?_
    refine CW.seq (fun K14 hK14 hE14 => ?_)
    refine CW.condp rfl (fun c28 => ?_) (fun c28 => ?_)
    ·
      exfalso; omega
    ·
      refine CW.exit (hE14 (.exit 2) nofun _ _ (hE12 (.exit 2) nofun _ _ (hX11 _ _ ?_)))
      refine hK9 _ _ ?_
      refine CW.seq (fun K15 hK15 hE15 => ?_)
      refine CW.region ?_
      refine LR.v (Y.move rfl rfl) (Wd.u rfl) rfl rfl ?_
      refine LR.v (Y.mlen mo rfl Tryd.runUnderlying82 rfl) (Wd.u rfl) rfl rfl ?_
      refine LR.v (Y.leq rfl rfl rfl) (Wd.u rfl) rfl rfl ?_
      -- call selvage/refs.must
      refine LR.call rfl Tryd.call26 rfl (Wd.u rfl) rfl rfl (rmust_to true 4 (decide_eq_true (by simp)) w0 _) (fun v55 H55 r55 => ?_)
      obtain ⟨rfl, hs55⟩ := r55
      replace mo := mo.nw hs55
      replace hm0 := hm0.tr hs55
      have hz5 := hs55.size
      refine LR.v (Y.assign rfl rfl) (Wd.u rfl) rfl rfl ?_
      refine LR.nil ?_
      refine hK15 _ _ ?_
      refine CW.ret (hret .ret (.inr rfl) _ _ _ (res1 rfl rfl) ?_)
      exact ⟨rfl, hm0⟩

set_option maxHeartbeats 4000000 in
theorem wnum_ct (bw k : Nat) (s : SV) (xs : List UInt8) (n : Nat) (x : UInt64) (w0 : World) (H0 : Heap)
    (hwv : Var 90 H0 bw [s.v, .int .i64 0, .int .i64 0]) (ow : Ow k 5 H0 fB 1 s.v xs) (hd : Dj (bw + 1) k) (hn : n ≤ 8) (hx : xs.length ≤ 1099511627776) :
    Ct Tryd.prog w0 51 #[.pointer (some ⟨bw, 0, none⟩), .int .i64 n, .int .u64 x.toNat] H0 (fun r H2 => ∃ s2 : SV, ∃ k2 : Nat, r = .tuple #[] ∧ (Var 90 H2 bw [s2.v, .int .i64 0, .int .i64 0]) ∧ (Ow k2 5 H2 fB 1 s2.v (xs ++ numL n x)) ∧ (Nx k H0.size k2) ∧ (Dj (bw + 1) k2) ∧ Mo (Ms [(bw + 1), k]) H0 H2) := by
  refine Ct.enter (args := [.pointer (some ⟨bw, 0, none⟩), .int .i64 n, .int .u64 x.toNat]) Tryd.func51 rfl rfl rfl ?_
  intro Q0 hret
  have hm0 : Mo (Ms [(bw + 1), k]) H0 H0 := Mo.refl _ _
  have nx_hm0_hwv := Nx.refl (bw + 1) H0.size
  have hlt_hwv := hwv.lt
  have nx_hm0_ow := Nx.refl k H0.size
  have hle_ow := ow.le
  refine CW.seq (fun K1 hK1 hE1 => ?_)
  refine CW.region ?_
  refine LR.v (Y.move rfl rfl) (Wd.u rfl) rfl rfl ?_
  refine LR.v (Y.cast (v2 := .int .i64 ((n : Int) - 1)) (Y.subi rfl rfl rfl (by omega)) (rfl)) (Wd.u rfl) rfl rfl ?_
  refine LR.v (Y.assign rfl rfl) (Wd.u rfl) rfl rfl ?_
  refine LR.nil ?_
  refine hK1 _ _ ?_
  refine CW.block (fun K2 hK2 hX2 hE2 => ?_)
  refine CW.loop (fun (s_ : (Nat) × (SV) × (Nat) × (List UInt8)) => match s_ with | (j, s1, k1, ys) => [(0, .pointer (some ⟨bw, 0, none⟩)), (2, .int .u64 x.toNat), (6, .int .i64 ((j : Int) - 1))])
    (fun (s_ : (Nat) × (SV) × (Nat) × (List UInt8)) (H : Heap) => match s_ with | (j, s1, k1, ys) => (j ≤ n) ∧ (Var 90 H bw [s1.v, .int .i64 0, .int .i64 0]) ∧ (Ow k1 5 H fB 1 s1.v ys) ∧ (ys ++ numL j x = xs ++ numL n x) ∧ (Nx k H0.size k1) ∧ (Dj (bw + 1) k1) ∧ Mo (Ms [(bw + 1), k]) H0 H)
    (fun (s_ : (Nat) × (SV) × (Nat) × (List UInt8)) => match s_ with | (j, s1, k1, ys) => j) (n, s, k, xs) ⟨rfl, rfl, rfl, trivial⟩ ?_ ?_
  ·
    exact ⟨(by omega), hwv, ow, rfl, Nx.refl _ _, hd, Mo.refl _ _⟩
  rintro ⟨j, s1, k1, ys⟩ HL1 hI1 K3 hN3 hE3
  obtain ⟨hj, hwv, ow, hys, nxl_ow, dj_hwv_ow, hlm1⟩ := hI1
  have nx1 : Nx k H0.size k1 := Nx.tr (nx_hm0_ow) nxl_ow hm0.size
  replace hm0 := hm0.trL hlm1 (MIL.cons (MI.app (MI.root (by simp)) (nx_hm0_hwv) (Nat.le_refl _)) (MIL.cons (MI.app (MI.root (by simp)) (nx_hm0_ow) (Nat.le_refl _)) MIL.nil))
  have hz1 := hlm1.size
  have hle_ow := ow.le
  have dj2 := dj_hwv_ow
  have nx_hlm1_hwv := Nx.refl (bw + 1) H0.size
  have nx3 := nxl_ow
  have hyl : ys.length + j = xs.length + n := by have := congrArg List.length hys; simpa [numL_len] using this
  refine CW.seq (fun K4 hK4 hE4 => ?_)
  refine CW.seq (fun K5 hK5 hE5 => ?_)
  refine CW.region ?_
  refine LR.v (Y.move rfl rfl) (Wd.u rfl) rfl rfl ?_
  refine LR.v (Y.geq rfl rfl rfl) (Wd.u rfl) rfl rfl ?_
  refine LR.nil ?_
  refine hK5 _ _ ?_
  refine CW.condp rfl (fun c10 => ?_) (fun c10 => ?_)
  ·
    obtain ⟨j, rfl⟩ : ∃ q, j = q + 1 := ⟨j - 1, by omega⟩
    refine CW.skip ?_
    refine hK4 _ _ ?_
    refine CW.seq (fun K6 hK6 hE6 => ?_)
    refine CW.block (fun K7 hK7 hX7 hE7 => ?_)
    refine CW.region_any (fun Hq => Mo (Ms [k1]) HL1 Hq) [13, 14, 15, 16] rfl ?_
    have hq3 : Mo (Ms [k1]) HL1 HL1 := Mo.refl _ _
    have nx4 := Nx.refl k1 HL1.size
    refine LH.take 0 (by kernel_rfl) rfl (by kernel_rfl) (by kernel_rfl) (by kernel_rfl) (fun Hq hq => Y.move rfl rfl) (Wd.u rfl) rfl rfl hq3 ?_
    refine LH.take 1 (by kernel_rfl) rfl (by kernel_rfl) (by kernel_rfl) (by kernel_rfl) (fun Hq hq => Y.move rfl rfl) (Wd.u rfl) rfl rfl hq3 ?_
    refine LH.take 2 (by kernel_rfl) rfl (by kernel_rfl) (by kernel_rfl) (by kernel_rfl) (fun Hq hq => Y.nilCheck rfl rfl) (Wd.u rfl) rfl rfl hq3 ?_
    refine LH.take 3 (by kernel_rfl) rfl (by kernel_rfl) (by kernel_rfl) (by kernel_rfl) (fun Hq hq => Y.fieldAddr (hwv.upL hq (DL.cons dj2 DL.nil)).pt rfl Tryd.runUnderlying90 rfl rfl Tryd.sizeOf88 (by decide) rfl) (Wd.u rfl) rfl rfl hq3 ?_
    refine LH.take 4 (by kernel_rfl) rfl (by kernel_rfl) (by kernel_rfl) (by kernel_rfl) (fun Hq hq => Y.fieldAddr (hwv.upL hq (DL.cons dj2 DL.nil)).pt rfl Tryd.runUnderlying88 rfl rfl Tryd.sizeOf57 (by decide) rfl) (Wd.u rfl) rfl rfl hq3 ?_
    refine LH.take 5 (by kernel_rfl) rfl (by kernel_rfl) (by kernel_rfl) (by kernel_rfl) (fun Hq hq => Y.load1 (hwv.upL hq (DL.cons dj2 DL.nil)).pt rfl Tryd.isAgg57 rfl) (Wd.u rfl) rfl rfl hq3 ?_
    refine LH.take 6 (by kernel_rfl) rfl (by kernel_rfl) (by kernel_rfl) (by kernel_rfl) (fun Hq hq => Y.move rfl rfl) (Wd.u rfl) rfl rfl hq3 ?_
    refine LH.take 7 (by kernel_rfl) rfl (by kernel_rfl) (by kernel_rfl) (by kernel_rfl) (fun Hq hq => Y.move rfl rfl) (Wd.u rfl) rfl rfl hq3 ?_
    refine LH.take 8 (by kernel_rfl) rfl (by kernel_rfl) (by kernel_rfl) (by kernel_rfl) (fun Hq hq => Y.muli rfl rfl rfl (by omega)) (Wd.u rfl) rfl rfl hq3 ?_
    refine LH.take 9 (by kernel_rfl) rfl (by kernel_rfl) (by kernel_rfl) (by kernel_rfl) (fun Hq hq => Y.shr_u64 (8 * j) rfl rfl rfl (by first | rfl | omega) (by omega)) (Wd.u rfl) rfl rfl hq3 ?_
    refine LH.take 10 (by kernel_rfl) rfl (by kernel_rfl) (by kernel_rfl) (by kernel_rfl) (fun Hq hq => Y.conv_u8 rfl Tryd.runUnderlying92 Tryd.runUnderlying5 rfl) (Wd.u rfl) rfl rfl hq3 ?_
    refine LH.one (i := 11) (by kernel_rfl) ?_
    refine LO.z rfl (Z.litw _ ([UInt8.ofNat (shrw_u64 x (8 * j)).toNat]) rfl inf57 rfl rfl rfl (by decide) (by decide) fB_len fB_one (rfl)) (Wd.u rfl) rfl rfl (fun v24 H24 r24 => ?_)
    obtain ⟨nw24, hs24, ob24, hH24⟩ := r24
    have hzs24 : H24.size = HL1.size + 1 := by rw [hH24]; simp
    have dj5 : Dj k1 (HL1.size + 1) := Dj.new ow.le
    have dj6 : Dj (bw + 1) (HL1.size + 1) := Dj.new hwv.lt
    have nx7 : Nx 0 H0.size (HL1.size + 1) := Nx.new hm0.size
    have nx8 : Nx 0 H0.size (HL1.size + 1) := Nx.new hlm1.size
    have nx9 : Nx 0 HL1.size (HL1.size + 1) := Nx.new hq3.size
    replace ow := ow.nw hs24
    replace hwv := hwv.nw hs24
    replace hm0 := hm0.trN hs24
    replace hlm1 := hlm1.trN hs24
    replace hq3 := hq3.trN hs24
    have hz2 := hs24.size
    refine ⟨.inr hq3, LH.narrow (SH2 := fun Hq => Mo (Ms [k1, (HL1.size + 1)]) H24 Hq) (fun Hq hq => hq3.trL hq (MIL.cons (MI.app (MI.root (by simp)) (nx4) (Nat.le_refl _)) (MIL.cons (MI.app MI.z (nx9) (Nat.le_refl _)) MIL.nil))) ?_⟩
    have hq3 : Mo (Ms [k1, (HL1.size + 1)]) H24 H24 := Mo.refl _ _
    have nx10 := Nx.refl k1 H24.size
    have nx11 := Nx.refl (HL1.size + 1) H24.size
    refine LH.one (i := 12) (by kernel_rfl) ?_
    refine LO.z rfl (Z.apnd ow nw24.rd rfl inf57 rfl rfl (by simp; omega) (by simp; omega)) (Wd.u rfl) rfl rfl (fun v25 H25 r25 => ?_)
    obtain ⟨k25, ow, hk25, hs25⟩ := r25
    replace hk25 : Nx k1 H24.size k25 := hk25
    replace hs25 := hs25.md
    have dj12 : Dj (bw + 1) k25 := Dj.app (dj2) hwv.lt hk25
    have dj13 : Dj (HL1.size + 1) k25 := Dj.app (dj5.symm) nw24.le hk25
    have nx14 : Nx k H0.size k25 := Nx.tr (nx1) hk25 hm0.size
    have nx15 : Nx k H0.size k25 := Nx.tr (nx3) hk25 hlm1.size
    have nx16 : Nx k1 H24.size k25 := Nx.tr (nx10) hk25 hq3.size
    replace hwv := hwv.upL hs25 (DL.cons dj2 DL.nil)
    replace nw24 := nw24.upL hs25 (DL.cons dj5.symm DL.nil)
    replace hm0 := hm0.trL hs25 (MIL.cons (MI.app (MI.root (by simp)) (nx1) (Nat.le_refl _)) MIL.nil)
    replace hlm1 := hlm1.trL hs25 (MIL.cons (MI.app (MI.root (by simp)) (nx3) (Nat.le_refl _)) MIL.nil)
    replace hq3 := hq3.trL hs25 (MIL.cons (MI.app (MI.root (by simp)) (nx10) (Nat.le_refl _)) MIL.nil)
    have hz3 := hs25.size
    have hle_ow := ow.le
    obtain ⟨s25, rfl⟩ : ∃ s : SV, v25 = s.v := ⟨toSV v25, ow.sv.symm⟩
    refine ⟨.inr hq3, LH.narrow (SH2 := fun Hq => Mo (Ms [k25, (HL1.size + 1)]) H25 Hq) (fun Hq hq => hq3.trL hq (MIL.cons (MI.app (MI.root (by simp)) (nx16) (Nat.le_refl _)) (MIL.cons (MI.app (MI.root (by simp)) (nx11) (Nat.le_refl _)) MIL.nil))) ?_⟩
    have hq3 : Mo (Ms [k25, (HL1.size + 1)]) H25 H25 := Mo.refl _ _
    have nx17 := Nx.refl k25 H25.size
    have nx18 := Nx.refl (HL1.size + 1) H25.size
    refine LH.one (i := 13) (by kernel_rfl) ?_
    refine LO.v rfl (Y.nilCheck rfl rfl) (Wd.u rfl) rfl rfl (.inl rfl) ?_
    refine LH.one (i := 14) (by kernel_rfl) ?_
    refine LO.v rfl (Y.fieldAddr hwv.pt rfl Tryd.runUnderlying90 rfl rfl Tryd.sizeOf88 (by decide) rfl) (Wd.u rfl) rfl rfl (.inl rfl) ?_
    refine LH.one (i := 15) (by kernel_rfl) ?_
    refine LO.v rfl (Y.fieldAddr hwv.pt rfl Tryd.runUnderlying88 rfl rfl Tryd.sizeOf57 (by decide) rfl) (Wd.u rfl) rfl rfl (.inl rfl) ?_
    refine LH.one (i := 16) (by kernel_rfl) ?_
    refine LO.s rfl (S.var1 hwv 0 (_) rfl rfl rfl (rfl) Tryd.sizeOf57 (by simp) (rfl)) (Wd.u rfl) rfl (fun H3_16 r3_16 => ?_)
    obtain ⟨hwv, hs3_16⟩ := r3_16
    replace hs3_16 := hs3_16.md1
    replace ow := ow.upL hs3_16 (DL.cons dj12.symm DL.nil)
    replace nw24 := nw24.upL hs3_16 (DL.cons dj6.symm DL.nil)
    replace hm0 := hm0.trL hs3_16 (MIL.cons (MI.app (MI.root (by simp)) (nx_hm0_hwv) (Nat.le_refl _)) MIL.nil)
    replace hlm1 := hlm1.trL hs3_16 (MIL.cons (MI.app (MI.root (by simp)) (nx_hlm1_hwv) (Nat.le_refl _)) MIL.nil)
    -- LOST hq3
    have hz4 := hs3_16.size
    refine ⟨.inl rfl, ?_⟩
    refine LH.done (by kernel_rfl) ?_
    refine hK7 _ _ ?_
    refine hK6 _ _ ?_
    refine CW.region ?_
    refine LR.v (Y.move rfl rfl) (Wd.u rfl) rfl rfl ?_
    refine LR.v (Y.subi rfl rfl rfl (by omega)) (Wd.u rfl) rfl rfl ?_
    refine LR.v (Y.assign rfl rfl) (Wd.u rfl) rfl rfl ?_
    refine LR.nil ?_
    refine QN.sub (hN3 (j, s25, k25, ys ++ [UInt8.ofNat (shrw_u64 x (8 * j)).toNat]) _ ?_ ?_) ⟨rfl, (iv (by omega)), (iv (by omega)), trivial⟩
    · exact ⟨(by omega), hwv, ow, by rw [← hys, List.append_assoc]; rfl, nx15, dj12, hlm1⟩
    · first | omega | (simp only; omega) | (simp; omega)
  ·
    obtain rfl : j = 0 := by omega
    rw [numL, List.append_nil] at hys
    subst hys
    refine CW.exit (hE4 (.exit 0) nofun _ _ (hE3 (.exit 0) nofun _ _ (hX2 _ _ ?_)))
    refine hret .normal (.inl rfl) _ _ _ (res0 rfl) ?_
    exact ⟨s1, k1, rfl, hwv, ow, nx1, dj2, hm0⟩

end Go.Proofs.YtabopjdbgkhacaaDoor.SeqD
