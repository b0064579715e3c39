/-
  Sources of commits: rows of places, and rows or ladders by number.
-/
import Derived.Test.YtepdhokpfecdnaaGraA
namespace Go.Proofs.Ytepdhokpfecdnaa.GraB
open Go.Proofs.Ytepdhokpfecdnaa.E Go.RowKit Go.Proofs.Ytepdhokpfecdnaa.GraA
set_option maxRecDepth 20000
set_option linter.unusedVariables false
set_option linter.unusedSimpArgs false
set_option linter.unusedSectionVars false
set_option maxRecDepth 100000 in
theorem inf28 : Inf Try.prog 28 30 32 32 := ⟨Try.underlying28, _, _, rfl, rfl, rfl, rfl, rfl⟩

/-- the n-th commit's name -/
def idn (n : Nat) : Ide := ⟨UInt8.ofNat (n * 37) :: UInt8.ofNat n :: UInt8.ofNat (n / 256) :: List.replicate 29 0, by simp⟩
def nbn (n : Nat) : Ide := ⟨9 :: UInt8.ofNat (n / 65536) :: UInt8.ofNat (n / 256) :: UInt8.ofNat n :: List.replicate 28 0, by simp⟩
theorem idn_inj {n m : Nat} (hn : n < 65536) (hm : m < 65536) (h : idn n = idn m) : n = m := by
  have h1 := congrArg Subtype.val h
  simp only [idn, List.cons.injEq, and_true] at h1
  obtain ⟨_, h2, h3⟩ := h1
  have e2 := congrArg UInt8.toNat h2
  have e3 := congrArg UInt8.toNat h3
  simp only [UInt8.toNat_ofNat'] at e2 e3
  omega
theorem nbn_inj {n m : Nat} (hn : n < 16777216) (hm : m < 16777216) (h : nbn n = nbn m) : n = m := by
  have h1 := congrArg Subtype.val h
  simp only [nbn, List.cons.injEq, and_true, true_and] at h1
  obtain ⟨h1, h2, h3⟩ := h1
  have e1 := congrArg UInt8.toNat h1
  have e2 := congrArg UInt8.toNat h2
  have e3 := congrArg UInt8.toNat h3
  simp only [UInt8.toNat_ofNat'] at e1 e2 e3
  omega
/-- a row of places -/
structure Rw where
  v : SV
  l : List Nat
abbrev fN (n : Nat) : List Value := [.int .i64 (n : Int)]
theorem fN_len (n : Nat) : (fN n).length = 1 := rfl
theorem fN_one (n : Nat) : ∀ u ∈ fN n, u.oneCell' = true := by simp [fN, Value.oneCell']
abbrev fRw (x : Rw) : List Value := [x.v.v]
theorem fRw_len (x : Rw) : (fRw x).length = 1 := rfl
theorem fRw_one (x : Rw) : ∀ u ∈ fRw x, u.oneCell' = true := by intro u hu; simp only [List.mem_singleton] at hu; subst hu; rfl
theorem splice_all2 {a b : List Value} (h : a.length = b.length) : splice a 0 b = b := by simp [splice, h]
/-- a commit's parents -/
def paL (g : List (List Nat)) (i : Ide) : Option (List Ide) := ((List.range g.length).find? (fun n => decide (idn n = i))).map (fun n => (g.getD n []).map idn)
theorem paL_some {g : List (List Nat)} {i : Ide} {k : Nat} (hk : k < g.length) (hi : idn k = i) (hno : ∀ j, j < k → idn j ≠ i) : paL g i = some ((g[k]).map idn) := by
  unfold paL
  have : (List.range g.length).find? (fun n => decide (idn n = i)) = some k := by
    rw [List.find?_range_eq_some]
    exact ⟨by simp [hi], by simpa using hk, fun j hj => by simpa using hno j hj⟩
  rw [this]
  simp [hk]
theorem paL_none {g : List (List Nat)} {i : Ide} (hno : ∀ j, j < g.length → idn j ≠ i) : paL g i = none := by
  unfold paL
  have : (List.range g.length).find? (fun n => decide (idn n = i)) = none := by
    rw [List.find?_range_eq_none]
    intro j hj; simpa using hno j hj
  rw [this]; rfl
theorem paL_at {g : List (List Nat)} {k : Nat} (hg : g.length ≤ 65536) (hk : k < g.length) : paL g (idn k) = some ((g[k]).map idn) :=
  paL_some hk rfl (fun j hj e => by have := idn_inj (by omega) (by omega) e; omega)
abbrev eV (e : Nat) : Value := erV 76 e

theorem idn_ct (n : Nat) (w0 : World) (H0 : Heap)
    (hn : n ≤ 1000000) :
    Ct Try.prog w0 12 #[.int .i64 (n : Int)] H0 (fun r H2 => r = vA (idn n) ∧ Nw H0 H2) := by
  refine Ct.enter (args := [.int .i64 (n : Int)]) Try.func12 rfl rfl rfl ?_
  intro Q0 hret
  have hm0 : Nw H0 H0 := Mo.refl _ _
  refine CW.seq (fun K1 hK1 hE1 => ?_)
  refine CW.region ?_
  refine LR.z (Z.allocv rfl Try.zeroValue30) (Wd.u rfl) rfl rfl (fun v2 H2 r2 => ?_)
  obtain ⟨rfl, va2, hs2, ob2, hH2⟩ := r2
  have hzs2 : H2.size = H0.size + 1 := by rw [hH2]; simp
  have nx1 : Nx 0 H0.size (H0.size + 1) := Nx.new hm0.size
  replace hm0 := hm0.tr hs2
  have hz1 := hs2.size
  replace va2 : Var 30 H2 H0.size (fA Zid) := va2
  refine LR.nil ?_
  refine hK1 _ _ ?_
  refine CW.seq (fun K2 hK2 hE2 => ?_)
  refine CW.region ?_
  refine LR.v (Y.move rfl rfl) (Wd.u rfl) rfl rfl ?_
  refine LR.v (Y.cast (v2 := .int .i64 ((n * 37 : Nat) : Int)) (Y.muli rfl rfl rfl (by omega)) (ivv (by omega))) (Wd.u rfl) rfl rfl ?_
  refine LR.v (Y.conv_u8 rfl Try.runUnderlying3 Try.runUnderlying5 rfl) (Wd.u rfl) rfl rfl ?_
  refine LR.v (Y.move rfl rfl) (Wd.u rfl) rfl rfl ?_
  refine LR.v (Y.conv_u8 rfl Try.runUnderlying3 Try.runUnderlying5 rfl) (Wd.u rfl) rfl rfl ?_
  refine LR.v (Y.move rfl rfl) (Wd.u rfl) rfl rfl ?_
  refine LR.v (Y.shrn (8) rfl rfl rfl (by first | rfl | omega) (by omega)) (Wd.u rfl) rfl rfl ?_
  refine LR.v (Y.conv_u8 rfl Try.runUnderlying3 Try.runUnderlying5 rfl) (Wd.u rfl) rfl rfl ?_
  refine LR.v (Y.build (v := vA (idn n)) rfl rfl (by intro w; kernel_rfl)) (Wd.u rfl) rfl rfl ?_
  refine LR.s (S.var va2 (_) (fA (idn n)) rfl rfl rfl rfl (fA_one _) Try.sizeOf30 (fA_len _) (by first | decide | simp [fA_len]) ((splice_all2 (by first | exact (fA_len _).symm | rfl | exact (fA_len _).trans (fA_len _).symm)))) (Wd.u rfl) rfl (fun H1_9 r1_9 => ?_)
  obtain ⟨va2, hs1_9⟩ := r1_9
  replace hs1_9 := hs1_9.md1
  replace hm0 := (Mo.trL (ks := []) (hm0.mdn []) hs1_9 (MIL.cons (MI.app MI.z (nx1) (Nat.le_refl _)) MIL.nil)).nil
  have hz2 := hs1_9.size
  refine LR.nil ?_
  refine hK2 _ _ ?_
  refine CW.ret (hret .ret (.inr rfl) _ _ _ (resC rfl rfl va2.pt Try.isAgg30 Try.sizeOf30 (fA_len _)) ?_)
  exact ⟨rfl, hm0⟩

theorem nbn_ct (n : Nat) (w0 : World) (H0 : Heap)
    (hn : n ≤ 16777215) :
    Ct Try.prog w0 26 #[.int .i64 (n : Int)] H0 (fun r H2 => r = vA (nbn n) ∧ Nw H0 H2) := by
  refine Ct.enter (args := [.int .i64 (n : Int)]) Try.func26 rfl rfl rfl ?_
  intro Q0 hret
  have hm0 : Nw H0 H0 := Mo.refl _ _
  refine CW.seq (fun K1 hK1 hE1 => ?_)
  refine CW.region ?_
  refine LR.z (Z.allocv rfl Try.zeroValue30) (Wd.u rfl) rfl rfl (fun v2 H2 r2 => ?_)
  obtain ⟨rfl, va2, hs2, ob2, hH2⟩ := r2
  have hzs2 : H2.size = H0.size + 1 := by rw [hH2]; simp
  have nx1 : Nx 0 H0.size (H0.size + 1) := Nx.new hm0.size
  replace hm0 := hm0.tr hs2
  have hz1 := hs2.size
  replace va2 : Var 30 H2 H0.size (fA Zid) := va2
  refine LR.nil ?_
  refine hK1 _ _ ?_
  refine CW.seq (fun K2 hK2 hE2 => ?_)
  refine CW.region ?_
  refine LR.v (Y.move rfl rfl) (Wd.u rfl) rfl rfl ?_
  refine LR.v (Y.shrn (16) rfl rfl rfl (by first | rfl | omega) (by omega)) (Wd.u rfl) rfl rfl ?_
  refine LR.v (Y.conv_u8 rfl Try.runUnderlying3 Try.runUnderlying5 rfl) (Wd.u rfl) rfl rfl ?_
  refine LR.v (Y.move rfl rfl) (Wd.u rfl) rfl rfl ?_
  refine LR.v (Y.shrn (8) rfl rfl rfl (by first | rfl | omega) (by omega)) (Wd.u rfl) rfl rfl ?_
  refine LR.v (Y.conv_u8 rfl Try.runUnderlying3 Try.runUnderlying5 rfl) (Wd.u rfl) rfl rfl ?_
  refine LR.v (Y.move rfl rfl) (Wd.u rfl) rfl rfl ?_
  refine LR.v (Y.conv_u8 rfl Try.runUnderlying3 Try.runUnderlying5 rfl) (Wd.u rfl) rfl rfl ?_
  refine LR.v (Y.build (v := vA (nbn n)) rfl rfl (by intro w; kernel_rfl)) (Wd.u rfl) rfl rfl ?_
  refine LR.s (S.var va2 (_) (fA (nbn n)) rfl rfl rfl rfl (fA_one _) Try.sizeOf30 (fA_len _) (by first | decide | simp [fA_len]) ((splice_all2 (by first | exact (fA_len _).symm | rfl | exact (fA_len _).trans (fA_len _).symm)))) (Wd.u rfl) rfl (fun H1_9 r1_9 => ?_)
  obtain ⟨va2, hs1_9⟩ := r1_9
  replace hs1_9 := hs1_9.md1
  replace hm0 := (Mo.trL (ks := []) (hm0.mdn []) hs1_9 (MIL.cons (MI.app MI.z (nx1) (Nat.le_refl _)) MIL.nil)).nil
  have hz2 := hs1_9.size
  refine LR.nil ?_
  refine hK2 _ _ ?_
  refine CW.ret (hret .ret (.inr rfl) _ _ _ (resC rfl rfl va2.pt Try.isAgg30 Try.sizeOf30 (fA_len _)) ?_)
  exact ⟨rfl, hm0⟩

theorem within_ct (a : Int) (n : Nat) (w0 : World) (H0 : Heap)
    (hn : 1 ≤ n ∧ n ≤ 1000000) (ha : -9223372036854775808 ≤ a ∧ a ≤ 9223372036854775807) :
    Ct Try.prog w0 14 #[.int .i64 a, .int .i64 (n : Int)] H0 (fun r H2 => ∃ q : Nat, r = .int .i64 (q : Int) ∧ (q < n) ∧ Nw H0 H2) := by
  refine Ct.enter (args := [.int .i64 a, .int .i64 (n : Int)]) Try.func14 rfl rfl rfl ?_
  intro Q0 hret
  have hm0 : Nw H0 H0 := Mo.refl _ _
  refine CW.seq (fun K1 hK1 hE1 => ?_)
  refine CW.region ?_
  refine LR.v (Y.assign rfl rfl) (Wd.u rfl) rfl rfl ?_
  refine LR.nil ?_
  refine hK1 _ _ ?_
  refine CW.seq (fun K2 hK2 hE2 => ?_)
  refine CW.region ?_
  refine LR.v (Y.move rfl rfl) (Wd.u rfl) rfl rfl ?_
  refine LR.v (Y.move rfl rfl) (Wd.u rfl) rfl rfl ?_
  refine LR.v (Y.rem rfl rfl rfl (by omega)) (Wd.u rfl) rfl rfl ?_
  have ht1 := Int.tmod_lt_of_pos a (show (0 : Int) < n by omega)
  have ht2 := Int.lt_tmod_of_pos a (show (0 : Int) < n by omega)
  refine LR.v (Y.assign rfl rfl) (Wd.u rfl) rfl rfl ?_
  refine LR.nil ?_
  refine hK2 _ _ ?_
  refine CW.seq (fun K3 hK3 hE3 => ?_)
  refine CW.seq (fun K4 hK4 hE4 => ?_)
  refine CW.region ?_
  refine LR.v (Y.move rfl rfl) (Wd.u rfl) rfl rfl ?_
  refine LR.v (Y.lss rfl rfl rfl) (Wd.u rfl) rfl rfl ?_
  refine LR.nil ?_
  refine hK4 _ _ ?_
  refine CW.condp rfl (fun c10 => ?_) (fun c10 => ?_)
  ·
    refine CW.region ?_
    refine LR.v (Y.move rfl rfl) (Wd.u rfl) rfl rfl ?_
    refine LR.v (Y.move rfl rfl) (Wd.u rfl) rfl rfl ?_
    refine LR.v (Y.addi rfl rfl rfl (by omega)) (Wd.u rfl) rfl rfl ?_
    refine LR.v (Y.assign rfl rfl) (Wd.u rfl) rfl rfl ?_
    refine LR.nil ?_
    refine hK3 _ _ ?_
    refine CW.seq (fun K5 hK5 hE5 => ?_)
    refine CW.region ?_
    refine LR.v (Y.move rfl rfl) (Wd.u rfl) rfl rfl ?_
    refine LR.v (Y.assign rfl rfl) (Wd.u rfl) rfl rfl ?_
    refine LR.nil ?_
    refine hK5 _ _ ?_
    refine CW.ret (hret .ret (.inr rfl) _ _ _ (res1 rfl rfl) ?_)
    exact ⟨(a.tmod n + n).toNat, ivv (by omega), by omega, hm0⟩
  ·
    refine CW.skip ?_
    refine hK3 _ _ ?_
    refine CW.seq (fun K6 hK6 hE6 => ?_)
    refine CW.region ?_
    refine LR.v (Y.move rfl rfl) (Wd.u rfl) rfl rfl ?_
    refine LR.v (Y.assign rfl rfl) (Wd.u rfl) rfl rfl ?_
    refine LR.nil ?_
    refine hK6 _ _ ?_
    refine CW.ret (hret .ret (.inr rfl) _ _ _ (res1 rfl rfl) ?_)
    exact ⟨(a.tmod n).toNat, ivv (by omega), by omega, hm0⟩

theorem srcp_ct (sb : Nat) (v : SV) (l : List Rw) (n : Nat) (i : Ide) (F : Nat → Prop) (w0 : World) (H0 : Heap)
    (hv : Var 27 H0 sb [v.v, .int .i64 (n : Int)]) (hl : Rd F H0 fRw 1 v.v l) (hx : ∀ x ∈ l, Rd F H0 fN 1 x.v.v x.l) (bf_hl : BF F H0.size) (bf_hx : BF F H0.size) (dfl : DF F (sb + 1)) (dfx : DF F (sb + 1)) (hll : l.length ≤ 1000) (hlx : ∀ x ∈ l, x.l.length ≤ 1000 ∧ ∀ k ∈ x.l, k ≤ 100000) (hn : n ≤ 1000000000) :
    Ct Try.prog w0 87 #[.pointer (some ⟨sb, 0, none⟩), vA i] H0 (fun r H2 => ∃ s : SV, ∃ ps : List Ide, ∃ e : Nat, r = .tuple #[s.v, eV e] ∧ ((e = 0 ∧ paL (l.map (·.l)) i = some ps) ∨ (e = 2 ∧ paL (l.map (·.l)) i = none ∧ ps = [])) ∧ (Rd (fun b => H0.size ≤ b) H2 fA 32 s.v ps) ∧ (Var 27 H2 sb [v.v, .int .i64 ((n + 1 : Nat) : Int)]) ∧ Mo (Ms [(sb + 1)]) H0 H2) := by
  refine Ct.enter (args := [.pointer (some ⟨sb, 0, none⟩), vA i]) Try.func87 rfl rfl rfl ?_
  intro Q0 hret
  have hm0 : Mo (Ms [(sb + 1)]) H0 H0 := Mo.refl _ _
  have nx_hm0_hv := Nx.refl (sb + 1) H0.size
  have hlt_hv := hv.lt
  refine CW.seq (fun K1 hK1 hE1 => ?_)
  refine CW.region ?_
  refine LR.z (Z.boxv rfl rfl) (Wd.u rfl) rfl rfl (fun v3 H3 r3 => ?_)
  obtain ⟨rfl, vi, hs3, ob3, hH3⟩ := r3
  have hzs3 : H3.size = H0.size + 1 := by rw [hH3]; simp
  have dj1 : Dj (sb + 1) (H0.size + 1) := Dj.new hv.lt
  have df2 := (DF.new (bf_hl.mono hm0.size) : DF _ (H0.size + 1))
  have df3 := (DF.new (bf_hx.mono hm0.size) : DF _ (H0.size + 1))
  have nx4 : Nx 0 H0.size (H0.size + 1) := Nx.new hm0.size
  replace hv := hv.nw hs3
  replace hl := hl.nw hs3
  replace hx := fun x h_ => (hx x h_).nw hs3
  replace hm0 := hm0.trN hs3
  have hz1 := hs3.size
  replace vi : Var 30 H3 H0.size (fA i) := vi
  refine LR.v (Y.assign rfl rfl) (Wd.u rfl) rfl rfl ?_
  refine LR.v (Y.assign rfl rfl) (Wd.u rfl) rfl rfl ?_
  refine LR.nil ?_
  refine hK1 _ _ ?_
  refine CW.seq (fun K2 hK2 hE2 => ?_)
  refine CW.region ?_
  refine LR.v (Y.move rfl rfl) (Wd.u rfl) rfl rfl ?_
  refine LR.v (Y.nilCheck rfl rfl) (Wd.u rfl) rfl rfl ?_
  refine LR.v (Y.fieldAddr hv.pt rfl Try.runUnderlying27 rfl rfl Try.sizeOf3 (by decide) rfl) (Wd.u rfl) rfl rfl ?_
  refine LR.v (Y.load1 (hv.pt.drop 1) rfl Try.isAgg3 rfl) (Wd.u rfl) rfl rfl ?_
  refine LR.v (Y.addi rfl rfl rfl (by omega)) (Wd.u rfl) rfl rfl ?_
  refine LR.v (Y.nilCheck rfl rfl) (Wd.u rfl) rfl rfl ?_
  refine LR.v (Y.fieldAddr hv.pt rfl Try.runUnderlying27 rfl rfl Try.sizeOf3 (by decide) rfl) (Wd.u rfl) rfl rfl ?_
  refine LR.s (S.var1 hv 1 ([v.v, .int .i64 ((n + 1 : Nat) : Int)]) rfl rfl rfl (rfl) Try.sizeOf3 (by simp) (rfl)) (Wd.u rfl) rfl (fun H1_7 r1_7 => ?_)
  obtain ⟨hv, hs1_7⟩ := r1_7
  replace hs1_7 := hs1_7.md1
  replace hl := hl.upL hs1_7 (DFL.cons dfl DFL.nil)
  replace hx := fun x h_ => (hx x h_).upL hs1_7 (DFL.cons dfx DFL.nil)
  replace vi := vi.upL hs1_7 (DL.cons dj1.symm DL.nil)
  replace hm0 := hm0.trL hs1_7 (MIL.cons (MI.app (MI.root (by simp)) (nx_hm0_hv) (Nat.le_refl _)) MIL.nil)
  have hz2 := hs1_7.size
  refine LR.nil ?_
  refine hK2 _ _ ?_
  refine CW.seq (fun K3 hK3 hE3 => ?_)
  refine CW.seq (fun K4 hK4 hE4 => ?_)
  refine CW.region ?_
  refine LR.v (Y.assign rfl rfl) (Wd.u rfl) rfl rfl ?_
  refine LR.nil ?_
  refine hK4 _ _ ?_
  refine CW.block (fun K5 hK5 hX5 hE5 => ?_)
  refine CW.loop (fun (k : (Nat)) => [(0, .pointer (some ⟨sb, 0, none⟩)), (3, .pointer (some ⟨H0.size, 0, none⟩)), (6, .int .i64 (k : Int))])
    (fun (k : (Nat)) (H : Heap) => (k ≤ l.length) ∧ (∀ j, j < k → idn j ≠ i) ∧ Nw H1_7 H)
    (fun (k : (Nat)) => l.length - k) 0 ⟨rfl, rfl, rfl, trivial⟩ ?_ ?_
  ·
    exact ⟨(by omega), fun j h => by omega, Mo.refl _ _⟩
  intro k HL1 hI1 K6 hN6 hE6
  obtain ⟨hk, hno, hlm1⟩ := hI1
  replace hv := hv.nw hlm1
  replace hl := hl.nw hlm1
  replace hx := fun x h_ => (hx x h_).nw hlm1
  replace vi := vi.nw hlm1
  replace hm0 := hm0.trN hlm1
  have hz3 := hlm1.size
  refine CW.seq (fun K7 hK7 hE7 => ?_)
  refine CW.seq (fun K8 hK8 hE8 => ?_)
  refine CW.region ?_
  refine LR.v (Y.move rfl rfl) (Wd.u rfl) rfl rfl ?_
  refine LR.v (Y.move rfl rfl) (Wd.u rfl) rfl rfl ?_
  refine LR.v (Y.nilCheck rfl rfl) (Wd.u rfl) rfl rfl ?_
  refine LR.v (Y.fieldAddr hv.pt rfl Try.runUnderlying27 rfl rfl Try.sizeOf22 (by decide) rfl) (Wd.u rfl) rfl rfl ?_
  refine LR.v (Y.load1 hv.pt rfl Try.isAgg22 rfl) (Wd.u rfl) rfl rfl ?_
  refine LR.v (Y.len hl rfl Try.runUnderlying22 rfl) (Wd.u rfl) rfl rfl ?_
  refine LR.v (Y.lss rfl rfl rfl) (Wd.u rfl) rfl rfl ?_
  refine LR.nil ?_
  refine hK8 _ _ ?_
  refine CW.condp rfl (fun c22 => ?_) (fun c22 => ?_)
  ·
    refine CW.skip ?_
    refine hK7 _ _ ?_
    refine CW.seq (fun K9 hK9 hE9 => ?_)
    refine CW.block (fun K10 hK10 hX10 hE10 => ?_)
    refine CW.seq (fun K11 hK11 hE11 => ?_)
    refine CW.region_any (fun Hq => Nw HL1 Hq) [] rfl ?_
    have hqs := Nw.refl HL1
    refine LH.take 0 (by kernel_rfl) rfl (by kernel_rfl) (by kernel_rfl) (by kernel_rfl) (fun Hq hq => Y.move rfl rfl) (Wd.u rfl) rfl rfl hqs ?_
    refine LH.take 2 (by kernel_rfl) rfl (by kernel_rfl) (by kernel_rfl) (by kernel_rfl) (fun Hq hq => Y.loadN (vi.pt.nw hq) rfl Try.isAgg30 Try.sizeOf30 (fA_len _) rfl) (Wd.u rfl) rfl rfl hqs ?_
    refine LH.one (i := 1) (by kernel_rfl) ?_
    -- call selvage/selvagelaw11.Id
    refine LO.call rfl rfl Try.call12 rfl (Wd.u rfl) rfl rfl (idn_ct k w0 _ (by omega)) (fun v26 H26 r26 => ?_)
    obtain ⟨rfl, hs26⟩ := r26
    replace hv := hv.nw hs26
    replace hl := hl.nw hs26
    replace hx := fun x h_ => (hx x h_).nw hs26
    replace vi := vi.nw hs26
    replace hm0 := hm0.trN hs26
    replace hlm1 := hlm1.tr hs26
    have hz4 := hs26.size
    have hq26 := hqs.tr hs26
    refine ⟨.inr hq26, LH.narrow (SH2 := fun Hq => Nw H26 Hq) (fun Hq hq => hq26.tr hq) ?_⟩
    have hqn26 := Nw.refl H26
    refine LH.take 3 (by kernel_rfl) rfl (by kernel_rfl) (by kernel_rfl) (by kernel_rfl) (fun Hq hq => Y.aeql rfl Try.eqGuardType30 (fun w => run_equalIn_id 9998 Try.underlying30 Try.underlying5 Try.sizeOf5 Try.isAgg5 ((idn k).2) (i.2) w) rfl rfl) (Wd.u rfl) rfl rfl hqn26 ?_
    refine LH.done (by kernel_rfl) ?_
    have hqe := hqn26
    refine hK11 _ _ ?_
    refine CW.condp rfl (fun c28 => ?_) (fun c28 => ?_)
    ·
      have hkl : k < l.length := by omega
      refine CW.seq (fun K12 hK12 hE12 => ?_)
      refine CW.region ?_
      refine LR.v (Y.assign rfl rfl) (Wd.u rfl) rfl rfl ?_
      refine LR.nil ?_
      refine hK12 _ _ ?_
      refine CW.seq (fun K13 hK13 hE13 => ?_)
      refine CW.seq (fun K14 hK14 hE14 => ?_)
      refine CW.region ?_
      refine LR.v (Y.assign rfl rfl) (Wd.u rfl) rfl rfl ?_
      refine LR.nil ?_
      refine hK14 _ _ ?_
      refine CW.block (fun K15 hK15 hX15 hE15 => ?_)
      refine CW.loop (fun (s_ : (Nat) × (SV) × (Nat)) => match s_ with | (q, o, ko) => [(0, .pointer (some ⟨sb, 0, none⟩)), (6, .int .i64 (k : Int)), (7, o.v), (8, .int .i64 (q : Int))])
        (fun (s_ : (Nat) × (SV) × (Nat)) (H : Heap) => match s_ with | (q, o, ko) => (q ≤ l[k].l.length) ∧ (Ow ko 30 H fA 32 o.v ((l[k].l.take q).map idn)) ∧ (Nx 0 H26.size ko) ∧ Nw H26 H)
        (fun (s_ : (Nat) × (SV) × (Nat)) => match s_ with | (q, o, ko) => l[k].l.length - q) (0, ⟨none, 0, 0⟩, 0) ⟨rfl, rfl, rfl, rfl, trivial⟩ ?_ ?_
      ·
        exact ⟨(by omega), Ow.nil fA_len fA_one, Nx.refl _ _, Mo.refl _ _⟩
      rintro ⟨q, o, ko⟩ HL2 hI2 K16 hN16 hE16
      obtain ⟨hq, ow, nxl_ow, hlm2⟩ := hI2
      have dj5 : Dj (sb + 1) ko := Dj.app (Dj.z) hv.lt nxl_ow
      have df6 := DF.app (DF.z) (bf_hl.mono hm0.size) nxl_ow
      have df7 := DF.app (DF.z) (bf_hx.mono hm0.size) nxl_ow
      have nx8 : Nx 0 H0.size ko := Nx.tr (Nx.refl 0 _) nxl_ow hm0.size
      have nx9 : Nx 0 H1_7.size ko := Nx.tr (Nx.refl 0 _) nxl_ow hlm1.size
      replace hv := hv.nw hlm2
      replace hl := hl.nw hlm2
      replace hx := fun x h_ => (hx x h_).nw hlm2
      replace hm0 := hm0.trN hlm2
      replace hlm1 := hlm1.tr hlm2
      have hz5 := hlm2.size
      have hle_ow := ow.le
      have nx10 := nxl_ow
      have hlk := (hlx _ (List.getElem_mem (by omega : k < l.length))).1
      refine CW.seq (fun K17 hK17 hE17 => ?_)
      refine CW.seq (fun K18 hK18 hE18 => ?_)
      refine CW.region ?_
      refine LR.v (Y.move rfl rfl) (Wd.u rfl) rfl rfl ?_
      refine LR.v (Y.move rfl rfl) (Wd.u rfl) rfl rfl ?_
      refine LR.v (Y.nilCheck rfl rfl) (Wd.u rfl) rfl rfl ?_
      refine LR.v (Y.fieldAddr hv.pt rfl Try.runUnderlying27 rfl rfl Try.sizeOf22 (by decide) rfl) (Wd.u rfl) rfl rfl ?_
      refine LR.v (Y.load1 hv.pt rfl Try.isAgg22 rfl) (Wd.u rfl) rfl rfl ?_
      refine LR.v (Y.move rfl rfl) (Wd.u rfl) rfl rfl ?_
      refine LR.e (g := fun ad => .pointer (some ad)) (Y.indexAddrF hl (k) rfl Try.runUnderlying22 Try.sizeOf38 rfl rfl (by first | rfl | omega) (by omega)) (Wd.u rfl) rfl rfl (fun ad35 pt35 => ?_)
      have bf_pt35 := bf_hl
      refine LR.v (Y.load1 pt35.pt rfl Try.isAgg38 rfl) (Wd.u rfl) rfl rfl ?_
      refine LR.v (Y.len (hx _ (List.getElem_mem (by omega : k < l.length))) rfl Try.runUnderlying38 rfl) (Wd.u rfl) rfl rfl ?_
      refine LR.v (Y.lss rfl rfl rfl) (Wd.u rfl) rfl rfl ?_
      refine LR.nil ?_
      refine hK18 _ _ ?_
      refine CW.condp rfl (fun c38 => ?_) (fun c38 => ?_)
      ·
        refine CW.skip ?_
        refine hK17 _ _ ?_
        refine CW.seq (fun K19 hK19 hE19 => ?_)
        refine CW.block (fun K20 hK20 hX20 hE20 => ?_)
        refine CW.region ?_
        refine LR.v (Y.move rfl rfl) (Wd.u rfl) rfl rfl ?_
        refine LR.v (Y.move rfl rfl) (Wd.u rfl) rfl rfl ?_
        refine LR.v (Y.nilCheck rfl rfl) (Wd.u rfl) rfl rfl ?_
        refine LR.v (Y.fieldAddr hv.pt rfl Try.runUnderlying27 rfl rfl Try.sizeOf22 (by decide) rfl) (Wd.u rfl) rfl rfl ?_
        refine LR.v (Y.load1 hv.pt rfl Try.isAgg22 rfl) (Wd.u rfl) rfl rfl ?_
        refine LR.v (Y.move rfl rfl) (Wd.u rfl) rfl rfl ?_
        refine LR.e (g := fun ad => .pointer (some ad)) (Y.indexAddrF hl (k) rfl Try.runUnderlying22 Try.sizeOf38 rfl rfl (by first | rfl | omega) (by omega)) (Wd.u rfl) rfl rfl (fun ad47 pt47 => ?_)
        have bf_pt47 := bf_hl
        refine LR.v (Y.load1 pt47.pt rfl Try.isAgg38 rfl) (Wd.u rfl) rfl rfl ?_
        refine LR.v (Y.move rfl rfl) (Wd.u rfl) rfl rfl ?_
        refine LR.e (g := fun ad => .pointer (some ad)) (Y.indexAddrF (hx _ (List.getElem_mem (by omega : k < l.length))) (q) rfl Try.runUnderlying38 Try.sizeOf3 rfl rfl (by first | rfl | omega) (by omega)) (Wd.u rfl) rfl rfl (fun ad50 pt50 => ?_)
        have bf_pt50 := bf_hx
        refine LR.v (Y.load1 pt50.pt rfl Try.isAgg3 rfl) (Wd.u rfl) rfl rfl ?_
        have hkb := (hlx _ (List.getElem_mem (by omega : k < l.length))).2 _ (List.getElem_mem (show q < l[k].l.length by omega))
        -- call selvage/selvagelaw11.Id
        refine LR.call rfl Try.call12 rfl (Wd.u rfl) rfl rfl (idn_ct _ w0 _ (by omega)) (fun v52 H52 r52 => ?_)
        obtain ⟨rfl, hs52⟩ := r52
        replace hv := hv.nw hs52
        replace hl := hl.nw hs52
        replace hx := fun x h_ => (hx x h_).nw hs52
        replace ow := ow.nw hs52
        replace pt47 := pt47.nw hs52
        replace pt50 := pt50.nw hs52
        replace hm0 := hm0.trN hs52
        replace hlm1 := hlm1.tr hs52
        replace hlm2 := hlm2.tr hs52
        have hz6 := hs52.size
        refine LR.z (Z.litw _ ([idn l[k].l[q]]) rfl inf28 rfl rfl rfl (by decide) (by decide) fA_len fA_one (rfl)) (Wd.u rfl) rfl rfl (fun v53 H53 r53 => ?_)
        obtain ⟨ow53, hs53, ob53, hH53⟩ := r53
        have hzs53 : H53.size = H52.size + 1 := by rw [hH53]; simp
        have dj11 : Dj (sb + 1) (H52.size + 1) := Dj.new hv.lt
        have df12 := (DF.new (bf_hl.mono hm0.size) : DF _ (H52.size + 1))
        have df13 := (DF.new (bf_hx.mono hm0.size) : DF _ (H52.size + 1))
        have dj14 : Dj ko (H52.size + 1) := Dj.new ow.le
        have df15 := (DF.new (bf_pt47.mono hm0.size) : DF _ (H52.size + 1))
        have df16 := (DF.new (bf_pt50.mono hm0.size) : DF _ (H52.size + 1))
        have nx17 : Nx 0 H0.size (H52.size + 1) := Nx.new hm0.size
        have nx18 : Nx 0 H1_7.size (H52.size + 1) := Nx.new hlm1.size
        have nx19 : Nx 0 H26.size (H52.size + 1) := Nx.new hlm2.size
        replace hv := hv.nw hs53
        replace hl := hl.nw hs53
        replace hx := fun x h_ => (hx x h_).nw hs53
        replace ow := ow.nw hs53
        replace pt47 := pt47.nw hs53
        replace pt50 := pt50.nw hs53
        replace hm0 := hm0.trN hs53
        replace hlm1 := hlm1.tr hs53
        replace hlm2 := hlm2.tr hs53
        have hz7 := hs53.size
        refine LR.z (Z.apnd ow ow53.rd rfl inf28 rfl rfl (by first | omega | (simp; omega)) (by first | omega | (simp; omega))) (Wd.u rfl) rfl rfl (fun v54 H54 r54 => ?_)
        obtain ⟨k54, ow54, hk54, hs54⟩ := r54
        replace hk54 : Nx ko H53.size k54 := hk54
        replace hs54 := hs54.md
        have dj20 : Dj (sb + 1) k54 := Dj.app (dj5) hv.lt hk54
        have df21 := DF.app (df6) (bf_hl.mono hm0.size) hk54
        have df22 := DF.app (df7) (bf_hx.mono hm0.size) hk54
        have df23 := DF.app (df6) (bf_pt47.mono hm0.size) hk54
        have df24 := DF.app (df7) (bf_pt50.mono hm0.size) hk54
        have dj25 : Dj (H52.size + 1) k54 := Dj.app (dj14.symm) ow53.le hk54
        have nx26 : Nx 0 H0.size k54 := Nx.tr (nx8) hk54 hm0.size
        have nx27 : Nx 0 H1_7.size k54 := Nx.tr (nx9) hk54 hlm1.size
        have nx28 : Nx 0 H26.size k54 := Nx.tr (nx10) hk54 hlm2.size
        replace hv := hv.upL hs54 (DL.cons dj5 DL.nil)
        replace hl := hl.upL hs54 (DFL.cons df6 DFL.nil)
        replace hx := fun x h_ => (hx x h_).upL hs54 (DFL.cons df7 DFL.nil)
        replace pt47 := pt47.upL hs54 (DFL.cons df6 DFL.nil)
        replace pt50 := pt50.upL hs54 (DFL.cons df7 DFL.nil)
        replace ow53 := ow53.upL hs54 (DL.cons dj14.symm DL.nil)
        replace hm0 := hm0.trL hs54 (MIL.cons (MI.app MI.z (nx8) (Nat.le_refl _)) MIL.nil)
        replace hlm1 := (Mo.trL (ks := []) (hlm1.mdn []) hs54 (MIL.cons (MI.app MI.z (nx9) (Nat.le_refl _)) MIL.nil)).nil
        replace hlm2 := (Mo.trL (ks := []) (hlm2.mdn []) hs54 (MIL.cons (MI.app MI.z (nx10) (Nat.le_refl _)) MIL.nil)).nil
        have hz8 := hs54.size
        have hle_ow54 := ow54.le
        obtain ⟨s54, rfl⟩ : ∃ s : SV, v54 = s.v := ⟨toSV v54, ow54.sv.symm⟩
        refine LR.v (Y.assign rfl rfl) (Wd.u rfl) rfl rfl ?_
        refine LR.nil ?_
        refine hK20 _ _ ?_
        refine hK19 _ _ ?_
        refine CW.region ?_
        refine LR.v (Y.move rfl rfl) (Wd.u rfl) rfl rfl ?_
        refine LR.v (Y.addi rfl rfl rfl (by omega)) (Wd.u rfl) rfl rfl ?_
        refine LR.v (Y.assign rfl rfl) (Wd.u rfl) rfl rfl ?_
        refine LR.nil ?_
        refine QN.sub (hN16 (q + 1, s54, k54) _ ?_ ?_) ⟨rfl, (iv (by omega)), rfl, (iv (by omega)), trivial⟩
        · exact ⟨(by omega), by rw [List.take_succ_eq_append_getElem (show q < l[k].l.length by omega), List.map_append]; exact ow54, (by assumption), hlm2⟩
        · first | omega | (simp only; omega) | (simp; omega)
      ·
        refine CW.exit (hE17 (.exit 2) nofun _ _ (hE16 (.exit 2) nofun _ _ (hX15 _ _ ?_)))
        refine hK13 _ _ ?_
        refine CW.seq (fun K21 hK21 hE21 => ?_)
        refine CW.region ?_
        refine LR.v (Y.move rfl rfl) (Wd.u rfl) rfl rfl ?_
        refine LR.v (Y.assign rfl rfl) (Wd.u rfl) rfl rfl ?_
        refine LR.v (Y.assign rfl rfl) (Wd.u rfl) rfl rfl ?_
        refine LR.nil ?_
        refine hK21 _ _ ?_
        refine CW.ret (hE10 .ret nofun (by simp) _ _ (hE9 .ret nofun _ _ (hE6 .ret nofun _ _ (hE5 .ret nofun (by simp) _ _ (hE3 .ret nofun _ _ (hret .ret (.inr rfl) _ _ _ (res2 rfl rfl rfl) ?_))))))
        have hql : q = l[k].l.length := by omega
        exact ⟨o, l[k].l.map idn, 0, rfl, .inl ⟨rfl, by rw [paL_some (k := k) (by simpa using hkl) (Subtype.ext c28) hno]; simp⟩, by rw [hql, List.take_length] at ow; exact ow.fre (nx8), hv, hm0⟩
    ·
      refine CW.skip ?_
      refine hK10 _ _ ?_
      refine hK9 _ _ ?_
      refine CW.region ?_
      refine LR.v (Y.move rfl rfl) (Wd.u rfl) rfl rfl ?_
      refine LR.v (Y.addi rfl rfl rfl (by omega)) (Wd.u rfl) rfl rfl ?_
      refine LR.v (Y.assign rfl rfl) (Wd.u rfl) rfl rfl ?_
      refine LR.nil ?_
      refine QN.sub (hN6 (k + 1) _ ?_ ?_) ⟨rfl, rfl, (iv (by omega)), trivial⟩
      · exact ⟨(by omega), fun j h => by
          by_cases h2 : j < k
          · exact hno j h2
          · obtain rfl : j = k := by omega
            exact fun e => c28 (congrArg Subtype.val e), hlm1⟩
      · first | omega | (simp only; omega) | (simp; omega)
  ·
    refine CW.exit (hE7 (.exit 0) nofun _ _ (hE6 (.exit 0) nofun _ _ (hX5 _ _ ?_)))
    refine hK3 _ _ ?_
    refine CW.seq (fun K22 hK22 hE22 => ?_)
    refine CW.region ?_
    refine LR.v (Y.mki rfl Try.runUnderlying76 (by intro ms h; cases h) rfl) (Wd.u rfl) rfl rfl ?_
    refine LR.v (Y.assign rfl rfl) (Wd.u rfl) rfl rfl ?_
    refine LR.v (Y.assign rfl rfl) (Wd.u rfl) rfl rfl ?_
    refine LR.nil ?_
    refine hK22 _ _ ?_
    refine CW.ret (hret .ret (.inr rfl) _ _ _ (res2 rfl rfl rfl) ?_)
    exact ⟨⟨none, 0, 0⟩, [], 2, rfl, .inr ⟨rfl, paL_none (fun j hj => hno j (by simp at hj; omega)), rfl⟩, Rd.nil _ _ _ _, hv, hm0⟩


/-- the number in a name -/
def nbi (i : Ide) : Nat := ((i.1.getD 1 0).toNat * 2 ^ 16 ||| (i.1.getD 2 0).toNat * 2 ^ 8) ||| (i.1.getD 3 0).toNat
def paN (N : Nat) (lad : Bool) (i : Ide) : Option (List Ide) :=
  if nbn (nbi i) ≠ i ∨ N ≤ nbi i then none else if lad = true then (if nbi i < 2 then some [] else some [nbn (nbi i / 2 * 2 - 2), nbn (nbi i / 2 * 2 - 1)]) else if nbi i = 0 then some [] else some [nbn (nbi i - 1)]
theorem or3 (a b c : Nat) (hb : b < 256) (hc : c < 256) : ((a * 2 ^ 16 ||| b * 2 ^ 8) ||| c) = a * 65536 + b * 256 + c := by
  have h1 : 2 ^ 16 * a + b * 2 ^ 8 = 2 ^ 16 * a ||| b * 2 ^ 8 := Nat.two_pow_add_eq_or_of_lt (by omega) a
  have h2 : 2 ^ 8 * (a * 256 + b) + c = 2 ^ 8 * (a * 256 + b) ||| c := Nat.two_pow_add_eq_or_of_lt (by omega) _
  rw [Nat.mul_comm a, ← h1, show 2 ^ 16 * a + b * 2 ^ 8 = 2 ^ 8 * (a * 256 + b) by omega, ← h2]
theorem nbi_eq (i : Ide) : nbi i = (i.1.getD 1 0).toNat * 65536 + (i.1.getD 2 0).toNat * 256 + (i.1.getD 3 0).toNat := or3 _ _ _ (UInt8.toNat_lt _) (UInt8.toNat_lt _)
theorem nbi_nbn {n : Nat} (h : n < 16777216) : nbi (nbn n) = n := by
  rw [nbi_eq]
  simp only [nbn, List.getD_cons_succ, List.getD_cons_zero, UInt8.toNat_ofNat']
  omega
theorem nbi_lt (i : Ide) : nbi i < 16777216 := by
  rw [nbi_eq]
  have h1 := (i.1.getD 1 0).toNat_lt; have h2 := (i.1.getD 2 0).toNat_lt; have h3 := (i.1.getD 3 0).toNat_lt
  omega
theorem fA_at (i : Ide) (k : Nat) (h : k < 32) : (fA i)[k]? = some (.int .u8 (i.1.getD k 0).toNat) := by
  have h2 : k < i.1.length := by rw [i.2]; exact h
  simp [fA, List.getD_eq_getElem?_getD, List.getElem?_eq_getElem h2]

theorem rowp_ct (sb : Nat) (N : Nat) (lad : Bool) (i : Ide) (w0 : World) (H0 : Heap)
    (hv : Var 63 H0 sb [.int .i64 (N : Int), .bool lad]) (hN : N ≤ 1000000) :
    Ct Try.prog w0 88 #[.pointer (some ⟨sb, 0, none⟩), vA i] H0 (fun r H2 => ∃ s : SV, ∃ ps : List Ide, ∃ e : Nat, r = .tuple #[s.v, eV e] ∧ ((e = 0 ∧ paN N lad i = some ps) ∨ (e = 2 ∧ paN N lad i = none ∧ ps = [])) ∧ (Rd (fun b => H0.size ≤ b) H2 fA 32 s.v ps) ∧ Nw H0 H2) := by
  refine Ct.enter (args := [.pointer (some ⟨sb, 0, none⟩), vA i]) Try.func88 rfl rfl rfl ?_
  intro Q0 hret
  have hm0 : Nw H0 H0 := Mo.refl _ _
  have nx_hm0_hv := Nx.refl (sb + 1) H0.size
  have hlt_hv := hv.lt
  have hlt := nbi_lt i
  have hb1 := (i.1.getD 1 0).toNat_lt
  have hb2 := (i.1.getD 2 0).toNat_lt
  have hb3 := (i.1.getD 3 0).toNat_lt
  have hor1 := or3 (i.1.getD 1 0).toNat (i.1.getD 2 0).toNat 0 (by omega) (by omega)
  simp only [Nat.or_zero] at hor1
  refine CW.seq (fun K1 hK1 hE1 => ?_)
  refine CW.region ?_
  refine LR.z (Z.boxv rfl rfl) (Wd.u rfl) rfl rfl (fun v3 H3 r3 => ?_)
  obtain ⟨rfl, vi, hs3, ob3, hH3⟩ := r3
  have hzs3 : H3.size = H0.size + 1 := by rw [hH3]; simp
  have dj1 : Dj (sb + 1) (H0.size + 1) := Dj.new hv.lt
  have nx2 : Nx 0 H0.size (H0.size + 1) := Nx.new hm0.size
  replace hv := hv.nw hs3
  replace hm0 := hm0.tr hs3
  have hz1 := hs3.size
  replace vi : Var 30 H3 H0.size (fA i) := vi
  refine LR.v (Y.assign rfl rfl) (Wd.u rfl) rfl rfl ?_
  refine LR.v (Y.assign rfl rfl) (Wd.u rfl) rfl rfl ?_
  refine LR.nil ?_
  refine hK1 _ _ ?_
  refine CW.seq (fun K2 hK2 hE2 => ?_)
  refine CW.region ?_
  refine LR.v (Y.arrAddr vi.pt (1) rfl Try.runUnderlying30 Try.sizeOf5 rfl rfl (by first | rfl | omega) (by first | omega | (simp; omega) | (simp; done))) (Wd.u rfl) rfl rfl ?_
  refine LR.v (Y.load1 (vi.pt.at 1 (fA_at i 1 (by omega))) rfl Try.isAgg5 rfl) (Wd.u rfl) rfl rfl ?_
  refine LR.v (Y.conv8i rfl Try.runUnderlying5 Try.runUnderlying3 rfl) (Wd.u rfl) rfl rfl ?_
  refine LR.v (Y.shln (16) rfl rfl rfl (by first | rfl | omega) (by omega) (by omega)) (Wd.u rfl) rfl rfl ?_
  refine LR.v (Y.arrAddr vi.pt (2) rfl Try.runUnderlying30 Try.sizeOf5 rfl rfl (by first | rfl | omega) (by first | omega | (simp; omega) | (simp; done))) (Wd.u rfl) rfl rfl ?_
  refine LR.v (Y.load1 (vi.pt.at 2 (fA_at i 2 (by omega))) rfl Try.isAgg5 rfl) (Wd.u rfl) rfl rfl ?_
  refine LR.v (Y.conv8i rfl Try.runUnderlying5 Try.runUnderlying3 rfl) (Wd.u rfl) rfl rfl ?_
  refine LR.v (Y.shln (8) rfl rfl rfl (by first | rfl | omega) (by omega) (by omega)) (Wd.u rfl) rfl rfl ?_
  refine LR.v (Y.orn rfl rfl rfl (by omega) (by omega)) (Wd.u rfl) rfl rfl ?_
  refine LR.v (Y.arrAddr vi.pt (3) rfl Try.runUnderlying30 Try.sizeOf5 rfl rfl (by first | rfl | omega) (by first | omega | (simp; omega) | (simp; done))) (Wd.u rfl) rfl rfl ?_
  refine LR.v (Y.load1 (vi.pt.at 3 (fA_at i 3 (by omega))) rfl Try.isAgg5 rfl) (Wd.u rfl) rfl rfl ?_
  refine LR.v (Y.conv8i rfl Try.runUnderlying5 Try.runUnderlying3 rfl) (Wd.u rfl) rfl rfl ?_
  refine LR.v (Y.cast (v2 := .int .i64 (nbi i : Nat)) (Y.orn rfl rfl rfl (by omega) (by omega)) (rfl)) (Wd.u rfl) rfl rfl ?_
  refine LR.v (Y.assign rfl rfl) (Wd.u rfl) rfl rfl ?_
  refine LR.nil ?_
  refine hK2 _ _ ?_
  refine CW.seq (fun K3 hK3 hE3 => ?_)
  refine CW.seq (fun K4 hK4 hE4 => ?_)
  refine CW.region_any (fun Hq => Nw H3 Hq) [] rfl ?_
  have hqs := Nw.refl H3
  refine LH.take 0 (by kernel_rfl) rfl (by kernel_rfl) (by kernel_rfl) (by kernel_rfl) (fun Hq hq => Y.loadN (vi.pt.nw hq) rfl Try.isAgg30 Try.sizeOf30 (fA_len _) rfl) (Wd.u rfl) rfl rfl hqs ?_
  refine LH.take 1 (by kernel_rfl) rfl (by kernel_rfl) (by kernel_rfl) (by kernel_rfl) (fun Hq hq => Y.move rfl rfl) (Wd.u rfl) rfl rfl hqs ?_
  refine LH.one (i := 2) (by kernel_rfl) ?_
  -- call selvage/selvagelaw11.number
  refine LO.call rfl rfl Try.call26 rfl (Wd.u rfl) rfl rfl (nbn_ct (nbi i) w0 _ (by omega)) (fun v22 H22 r22 => ?_)
  obtain ⟨rfl, hs22⟩ := r22
  replace hv := hv.nw hs22
  replace vi := vi.nw hs22
  replace hm0 := hm0.tr hs22
  have hz2 := hs22.size
  have hq22 := hqs.tr hs22
  refine ⟨.inr hq22, LH.narrow (SH2 := fun Hq => Nw H22 Hq) (fun Hq hq => hq22.tr hq) ?_⟩
  have hqn22 := Nw.refl H22
  refine LH.take 3 (by kernel_rfl) rfl (by kernel_rfl) (by kernel_rfl) (by kernel_rfl) (fun Hq hq => Y.aneq rfl Try.eqGuardType30 (fun w => run_equalIn_id 9998 Try.underlying30 Try.underlying5 Try.sizeOf5 Try.isAgg5 (i.2) ((nbn (nbi i)).2) w) rfl rfl) (Wd.u rfl) rfl rfl hqn22 ?_
  refine LH.take 4 (by kernel_rfl) rfl (by kernel_rfl) (by kernel_rfl) (by kernel_rfl) (fun Hq hq => Y.move rfl rfl) (Wd.u rfl) rfl rfl hqn22 ?_
  refine LH.splitp (d := 24) rfl (fun g24 => ?_) (fun g24 => ?_)
  ·
    refine LH.gs 5 (by kernel_rfl) rfl (by kernel_rfl) (by kernel_rfl) (by kernel_rfl) rfl rfl rfl rfl rfl rfl hqn22 ?_
    refine LH.gs 6 (by kernel_rfl) rfl (by kernel_rfl) (by kernel_rfl) (by kernel_rfl) rfl rfl rfl rfl rfl rfl hqn22 ?_
    refine LH.gs 7 (by kernel_rfl) rfl (by kernel_rfl) (by kernel_rfl) (by kernel_rfl) rfl rfl rfl rfl rfl rfl hqn22 ?_
    refine LH.gs 8 (by kernel_rfl) rfl (by kernel_rfl) (by kernel_rfl) (by kernel_rfl) rfl rfl rfl rfl rfl rfl hqn22 ?_
    refine LH.gs 9 (by kernel_rfl) rfl (by kernel_rfl) (by kernel_rfl) (by kernel_rfl) rfl rfl rfl rfl rfl rfl hqn22 ?_
    refine LH.gs 10 (by kernel_rfl) rfl (by kernel_rfl) (by kernel_rfl) (by kernel_rfl) rfl rfl rfl rfl rfl rfl hqn22 ?_
    refine LH.take 11 (by kernel_rfl) rfl (by kernel_rfl) (by kernel_rfl) (by kernel_rfl) (fun Hq hq => Y.pick_t rfl rfl rfl) (Wd.u rfl) rfl rfl hqn22 ?_
    refine LH.done (by kernel_rfl) ?_
    have hqe := hqn22
    refine hK4 _ _ ?_
    refine CW.cond_t rfl ?_
    refine CW.seq (fun K5 hK5 hE5 => ?_)
    refine CW.region ?_
    refine LR.v (Y.mki rfl Try.runUnderlying76 (by intro ms h; cases h) rfl) (Wd.u rfl) rfl rfl ?_
    refine LR.v (Y.assign rfl rfl) (Wd.u rfl) rfl rfl ?_
    refine LR.v (Y.assign rfl rfl) (Wd.u rfl) rfl rfl ?_
    refine LR.nil ?_
    refine hK5 _ _ ?_
    refine CW.ret (hE3 .ret nofun _ _ (hret .ret (.inr rfl) _ _ _ (res2 rfl rfl rfl) ?_))
    exact ⟨⟨none, 0, 0⟩, [], 2, rfl, .inr ⟨rfl, if_pos (.inl (fun e => g24 (congrArg Subtype.val e.symm))), rfl⟩, Rd.nil _ _ _ _, hm0⟩
  ·
    refine LH.take 5 (by kernel_rfl) rfl (by kernel_rfl) (by kernel_rfl) (by kernel_rfl) (fun Hq hq => Y.move rfl rfl) (Wd.g rfl rfl rfl) rfl rfl hqn22 ?_
    refine LH.take 6 (by kernel_rfl) rfl (by kernel_rfl) (by kernel_rfl) (by kernel_rfl) (fun Hq hq => Y.move rfl rfl) (Wd.g rfl rfl rfl) rfl rfl hqn22 ?_
    refine LH.take 7 (by kernel_rfl) rfl (by kernel_rfl) (by kernel_rfl) (by kernel_rfl) (fun Hq hq => Y.nilCheck rfl rfl) (Wd.g rfl rfl rfl) rfl rfl hqn22 ?_
    refine LH.take 8 (by kernel_rfl) rfl (by kernel_rfl) (by kernel_rfl) (by kernel_rfl) (fun Hq hq => Y.fieldAddr (hv.pt.nw hq) rfl Try.runUnderlying63 rfl rfl Try.sizeOf3 (by decide) rfl) (Wd.g rfl rfl rfl) rfl rfl hqn22 ?_
    refine LH.take 9 (by kernel_rfl) rfl (by kernel_rfl) (by kernel_rfl) (by kernel_rfl) (fun Hq hq => Y.load1 (hv.pt.nw hq) rfl Try.isAgg3 rfl) (Wd.g rfl rfl rfl) rfl rfl hqn22 ?_
    refine LH.take 10 (by kernel_rfl) rfl (by kernel_rfl) (by kernel_rfl) (by kernel_rfl) (fun Hq hq => Y.geq rfl rfl rfl) (Wd.g rfl rfl rfl) rfl rfl hqn22 ?_
    refine LH.take 11 (by kernel_rfl) rfl (by kernel_rfl) (by kernel_rfl) (by kernel_rfl) (fun Hq hq => Y.pick_f rfl rfl rfl) (Wd.u rfl) rfl rfl hqn22 ?_
    refine LH.done (by kernel_rfl) ?_
    have hqe := hqn22
    refine hK4 _ _ ?_
    refine CW.condp rfl (fun c31 => ?_) (fun c31 => ?_)
    ·
      refine CW.seq (fun K6 hK6 hE6 => ?_)
      refine CW.region ?_
      refine LR.v (Y.mki rfl Try.runUnderlying76 (by intro ms h; cases h) rfl) (Wd.u rfl) rfl rfl ?_
      refine LR.v (Y.assign rfl rfl) (Wd.u rfl) rfl rfl ?_
      refine LR.v (Y.assign rfl rfl) (Wd.u rfl) rfl rfl ?_
      refine LR.nil ?_
      refine hK6 _ _ ?_
      refine CW.ret (hE3 .ret nofun _ _ (hret .ret (.inr rfl) _ _ _ (res2 rfl rfl rfl) ?_))
      exact ⟨⟨none, 0, 0⟩, [], 2, rfl, .inr ⟨rfl, if_pos (.inr (by omega)), rfl⟩, Rd.nil _ _ _ _, hm0⟩
    ·
      refine CW.skip ?_
      refine hK3 _ _ ?_
      refine CW.seq (fun K7 hK7 hE7 => ?_)
      refine CW.seq (fun K8 hK8 hE8 => ?_)
      refine CW.region ?_
      refine LR.v (Y.move rfl rfl) (Wd.u rfl) rfl rfl ?_
      refine LR.v (Y.nilCheck rfl rfl) (Wd.u rfl) rfl rfl ?_
      refine LR.v (Y.fieldAddr hv.pt rfl Try.runUnderlying63 rfl rfl Try.sizeOf4 (by decide) rfl) (Wd.u rfl) rfl rfl ?_
      refine LR.v (Y.load1 (hv.pt.drop 1) rfl Try.isAgg4 rfl) (Wd.u rfl) rfl rfl ?_
      refine LR.nil ?_
      refine hK8 _ _ ?_
      refine CW.cond rfl (fun c36 => ?_) (fun c36 => ?_)
      ·
        refine CW.seq (fun K9 hK9 hE9 => ?_)
        refine CW.seq (fun K10 hK10 hE10 => ?_)
        refine CW.region ?_
        refine LR.v (Y.move rfl rfl) (Wd.u rfl) rfl rfl ?_
        refine LR.v (Y.lss rfl rfl rfl) (Wd.u rfl) rfl rfl ?_
        refine LR.nil ?_
        refine hK10 _ _ ?_
        refine CW.condp rfl (fun c38 => ?_) (fun c38 => ?_)
        ·
          refine CW.seq (fun K11 hK11 hE11 => ?_)
          refine CW.region ?_
          refine LR.v (Y.assign rfl rfl) (Wd.u rfl) rfl rfl ?_
          refine LR.v (Y.assign rfl rfl) (Wd.u rfl) rfl rfl ?_
          refine LR.nil ?_
          refine hK11 _ _ ?_
          refine CW.ret (hE9 .ret nofun _ _ (hE7 .ret nofun _ _ (hret .ret (.inr rfl) _ _ _ (res2 rfl rfl rfl) ?_)))
          have hnb : ¬ (nbn (nbi i) ≠ i ∨ N ≤ nbi i) := fun h => by
            rcases h with h | h
            · exact h (Subtype.ext (Decidable.not_not.1 g24)).symm
            · omega
          exact ⟨⟨none, 0, 0⟩, [], 0, rfl, .inl ⟨rfl, by unfold paN; rw [if_neg hnb, if_pos c36, if_pos (by omega)]⟩, Rd.nil _ _ _ _, hm0⟩
        ·
          refine CW.skip ?_
          refine hK9 _ _ ?_
          refine CW.seq (fun K12 hK12 hE12 => ?_)
          refine CW.region ?_
          refine LR.v (Y.move rfl rfl) (Wd.u rfl) rfl rfl ?_
          refine LR.v (Y.cast (v2 := .int .i64 ((nbi i / 2 : Nat) : Int)) (Y.quoi rfl rfl rfl (by omega)) (ivv (by omega))) (Wd.u rfl) rfl rfl ?_
          refine LR.v (Y.muli rfl rfl rfl (by omega)) (Wd.u rfl) rfl rfl ?_
          refine LR.v (Y.cast (v2 := .int .i64 ((nbi i / 2 * 2 - 2 : Nat) : Int)) (Y.subi rfl rfl rfl (by omega)) (ivv (by omega))) (Wd.u rfl) rfl rfl ?_
          -- call selvage/selvagelaw11.number
          refine LR.call rfl Try.call26 rfl (Wd.u rfl) rfl rfl (nbn_ct _ w0 _ (by omega)) (fun v43 H43 r43 => ?_)
          obtain ⟨rfl, hs43⟩ := r43
          replace hv := hv.nw hs43
          replace hm0 := hm0.tr hs43
          have hz3 := hs43.size
          refine LR.v (Y.move rfl rfl) (Wd.u rfl) rfl rfl ?_
          refine LR.v (Y.cast (v2 := .int .i64 ((nbi i / 2 : Nat) : Int)) (Y.quoi rfl rfl rfl (by omega)) (ivv (by omega))) (Wd.u rfl) rfl rfl ?_
          refine LR.v (Y.muli rfl rfl rfl (by omega)) (Wd.u rfl) rfl rfl ?_
          refine LR.v (Y.cast (v2 := .int .i64 ((nbi i / 2 * 2 - 1 : Nat) : Int)) (Y.subi rfl rfl rfl (by omega)) (ivv (by omega))) (Wd.u rfl) rfl rfl ?_
          -- call selvage/selvagelaw11.number
          refine LR.call rfl Try.call26 rfl (Wd.u rfl) rfl rfl (nbn_ct _ w0 _ (by omega)) (fun v48 H48 r48 => ?_)
          obtain ⟨rfl, hs48⟩ := r48
          replace hv := hv.nw hs48
          replace hm0 := hm0.tr hs48
          have hz4 := hs48.size
          refine LR.z (Z.litw _ ([nbn (nbi i / 2 * 2 - 2), nbn (nbi i / 2 * 2 - 1)]) rfl inf28 rfl rfl rfl (by decide) (by decide) fA_len fA_one (rfl)) (Wd.u rfl) rfl rfl (fun v49 H49 r49 => ?_)
          obtain ⟨ow49, hs49, ob49, hH49⟩ := r49
          have hzs49 : H49.size = H48.size + 1 := by rw [hH49]; simp
          have dj3 : Dj (sb + 1) (H48.size + 1) := Dj.new hv.lt
          have nx4 : Nx 0 H0.size (H48.size + 1) := Nx.new hm0.size
          replace hv := hv.nw hs49
          replace hm0 := hm0.tr hs49
          have hz5 := hs49.size
          refine LR.v (Y.assign rfl rfl) (Wd.u rfl) rfl rfl ?_
          refine LR.v (Y.assign rfl rfl) (Wd.u rfl) rfl rfl ?_
          refine LR.nil ?_
          refine hK12 _ _ ?_
          refine CW.ret (hE7 .ret nofun _ _ (hret .ret (.inr rfl) _ _ _ (res2 rfl rfl rfl) ?_))
          have hnb : ¬ (nbn (nbi i) ≠ i ∨ N ≤ nbi i) := fun h => by
            rcases h with h | h
            · exact h (Subtype.ext (Decidable.not_not.1 g24)).symm
            · omega
          exact ⟨toSV v49, _, 0, by rw [ow49.sv]; rfl, .inl ⟨rfl, by unfold paN; rw [if_neg hnb, if_pos c36, if_neg (by omega)]⟩, by rw [ow49.sv]; exact ow49.fre (nx4), hm0⟩
      ·
        refine CW.skip ?_
        refine hK7 _ _ ?_
        refine CW.seq (fun K13 hK13 hE13 => ?_)
        refine CW.seq (fun K14 hK14 hE14 => ?_)
        refine CW.region ?_
        refine LR.v (Y.move rfl rfl) (Wd.u rfl) rfl rfl ?_
        refine LR.v (Y.eql rfl rfl rfl) (Wd.u rfl) rfl rfl ?_
        refine LR.nil ?_
        refine hK14 _ _ ?_
        refine CW.condp rfl (fun c51 => ?_) (fun c51 => ?_)
        ·
          refine CW.seq (fun K15 hK15 hE15 => ?_)
          refine CW.region ?_
          refine LR.v (Y.assign rfl rfl) (Wd.u rfl) rfl rfl ?_
          refine LR.v (Y.assign rfl rfl) (Wd.u rfl) rfl rfl ?_
          refine LR.nil ?_
          refine hK15 _ _ ?_
          refine CW.ret (hE13 .ret nofun _ _ (hret .ret (.inr rfl) _ _ _ (res2 rfl rfl rfl) ?_))
          have hnb : ¬ (nbn (nbi i) ≠ i ∨ N ≤ nbi i) := fun h => by
            rcases h with h | h
            · exact h (Subtype.ext (Decidable.not_not.1 g24)).symm
            · omega
          exact ⟨⟨none, 0, 0⟩, [], 0, rfl, .inl ⟨rfl, by unfold paN; rw [if_neg hnb, if_neg (by simpa using c36), if_pos (by omega)]⟩, Rd.nil _ _ _ _, hm0⟩
        ·
          refine CW.skip ?_
          refine hK13 _ _ ?_
          refine CW.seq (fun K16 hK16 hE16 => ?_)
          refine CW.region ?_
          refine LR.v (Y.move rfl rfl) (Wd.u rfl) rfl rfl ?_
          refine LR.v (Y.cast (v2 := .int .i64 ((nbi i - 1 : Nat) : Int)) (Y.subi rfl rfl rfl (by omega)) (ivv (by omega))) (Wd.u rfl) rfl rfl ?_
          -- call selvage/selvagelaw11.number
          refine LR.call rfl Try.call26 rfl (Wd.u rfl) rfl rfl (nbn_ct _ w0 _ (by omega)) (fun v54 H54 r54 => ?_)
          obtain ⟨rfl, hs54⟩ := r54
          replace hv := hv.nw hs54
          replace hm0 := hm0.tr hs54
          have hz6 := hs54.size
          refine LR.z (Z.litw _ ([nbn (nbi i - 1)]) rfl inf28 rfl rfl rfl (by decide) (by decide) fA_len fA_one (rfl)) (Wd.u rfl) rfl rfl (fun v55 H55 r55 => ?_)
          obtain ⟨ow55, hs55, ob55, hH55⟩ := r55
          have hzs55 : H55.size = H54.size + 1 := by rw [hH55]; simp
          have dj5 : Dj (sb + 1) (H54.size + 1) := Dj.new hv.lt
          have nx6 : Nx 0 H0.size (H54.size + 1) := Nx.new hm0.size
          replace hv := hv.nw hs55
          replace hm0 := hm0.tr hs55
          have hz7 := hs55.size
          refine LR.v (Y.assign rfl rfl) (Wd.u rfl) rfl rfl ?_
          refine LR.v (Y.assign rfl rfl) (Wd.u rfl) rfl rfl ?_
          refine LR.nil ?_
          refine hK16 _ _ ?_
          refine CW.ret (hret .ret (.inr rfl) _ _ _ (res2 rfl rfl rfl) ?_)
          have hnb : ¬ (nbn (nbi i) ≠ i ∨ N ≤ nbi i) := fun h => by
            rcases h with h | h
            · exact h (Subtype.ext (Decidable.not_not.1 g24)).symm
            · omega
          exact ⟨toSV v55, _, 0, by rw [ow55.sv]; rfl, .inl ⟨rfl, by unfold paN; rw [if_neg hnb, if_neg (by simpa using c36), if_neg (by omega)]⟩, by rw [ow55.sv]; exact ow55.fre (nx6), hm0⟩

end Go.Proofs.Ytepdhokpfecdnaa.GraB
