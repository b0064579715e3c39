/-
  Contracts of functions of the program, and plain laws: put together of several texts.
-/
import Derived.Test.YtepdhokpfecdnaaGa
import Derived.Lib.AppendZerosOnto
import Derived.Lib.Overlaps
/-
  Sources of commits: rows of places, and rows or ladders by number.
-/
namespace Go.Proofs.Ytepdhokpfecdnaa.GraB
open Go.Proofs.Ytepdhokpfecdnaa.E Go.RowKit Go.Proofs.Ytepdhokpfecdnaa.GraA
set_option maxRecDepth 20000
set_option linter.unusedVariables false
set_option linter.unusedSimpArgs false
set_option linter.unusedSectionVars false
set_option maxRecDepth 100000 in
theorem inf28 : Inf Try.prog 28 30 32 32 := ⟨Try.underlying28, _, _, rfl, rfl, rfl, rfl, rfl⟩

/-- the n-th commit's name -/
def idn (n : Nat) : Ide := ⟨UInt8.ofNat (n * 37) :: UInt8.ofNat n :: UInt8.ofNat (n / 256) :: List.replicate 29 0, by simp⟩
def nbn (n : Nat) : Ide := ⟨9 :: UInt8.ofNat (n / 65536) :: UInt8.ofNat (n / 256) :: UInt8.ofNat n :: List.replicate 28 0, by simp⟩
theorem idn_inj {n m : Nat} (hn : n < 65536) (hm : m < 65536) (h : idn n = idn m) : n = m := by
  have h1 := congrArg Subtype.val h
  simp only [idn, List.cons.injEq, and_true] at h1
  obtain ⟨_, h2, h3⟩ := h1
  have e2 := congrArg UInt8.toNat h2
  have e3 := congrArg UInt8.toNat h3
  simp only [UInt8.toNat_ofNat'] at e2 e3
  omega
/-- a row of places -/
structure Rw where
  v : SV
  l : List Nat
abbrev fN (n : Nat) : List Value := [.int .i64 (n : Int)]
theorem fN_len (n : Nat) : (fN n).length = 1 := rfl
theorem fN_one (n : Nat) : ∀ u ∈ fN n, u.oneCell' = true := by simp [fN, Value.oneCell']
abbrev fRw (x : Rw) : List Value := [x.v.v]
theorem fRw_len (x : Rw) : (fRw x).length = 1 := rfl
theorem fRw_one (x : Rw) : ∀ u ∈ fRw x, u.oneCell' = true := by intro u hu; simp only [List.mem_singleton] at hu; subst hu; rfl
theorem splice_all2 {a b : List Value} (h : a.length = b.length) : splice a 0 b = b := by simp [splice, h]
/-- a commit's parents -/
def paL (g : List (List Nat)) (i : Ide) : Option (List Ide) := ((List.range g.length).find? (fun n => decide (idn n = i))).map (fun n => (g.getD n []).map idn)
theorem paL_some {g : List (List Nat)} {i : Ide} {k : Nat} (hk : k < g.length) (hi : idn k = i) (hno : ∀ j, j < k → idn j ≠ i) : paL g i = some ((g[k]).map idn) := by
  unfold paL
  have : (List.range g.length).find? (fun n => decide (idn n = i)) = some k := by
    rw [List.find?_range_eq_some]
    exact ⟨by simp [hi], by simpa using hk, fun j hj => by simpa using hno j hj⟩
  rw [this]
  simp [hk]
theorem paL_none {g : List (List Nat)} {i : Ide} (hno : ∀ j, j < g.length → idn j ≠ i) : paL g i = none := by
  unfold paL
  have : (List.range g.length).find? (fun n => decide (idn n = i)) = none := by
    rw [List.find?_range_eq_none]
    intro j hj; simpa using hno j hj
  rw [this]; rfl
theorem paL_at {g : List (List Nat)} {k : Nat} (hg : g.length ≤ 65536) (hk : k < g.length) : paL g (idn k) = some ((g[k]).map idn) :=
  paL_some hk rfl (fun j hj e => by have := idn_inj (by omega) (by omega) e; omega)
abbrev eV (e : Nat) : Value := erV 76 e

theorem idn_ct (n : Nat) (w0 : World) (H0 : Heap)
    (hn : n ≤ 1000000) :
    Ct Try.prog w0 12 #[.int .i64 (n : Int)] H0 (fun r H2 => r = vA (idn n) ∧ Nw H0 H2) := by
  refine Ct.enter (args := [.int .i64 (n : Int)]) Try.func12 rfl rfl rfl ?_
  intro Q0 hret
  have hm0 : Nw H0 H0 := Mo.refl _ _
  refine CW.seq (fun K1 hK1 hE1 => ?_)
  refine CW.region ?_
  refine LR.z (Z.allocv rfl Try.zeroValue30) (Wd.u rfl) rfl rfl (fun v2 H2 r2 => ?_)
  obtain ⟨rfl, va2, hs2, ob2, hH2⟩ := r2
  have hzs2 : H2.size = H0.size + 1 := by rw [hH2]; simp
  have nx1 : Nx 0 H0.size (H0.size + 1) := Nx.new hm0.size
  replace hm0 := hm0.tr hs2
  have hz1 := hs2.size
  replace va2 : Var 30 H2 H0.size (fA Zid) := va2
  refine LR.nil ?_
  refine hK1 _ _ ?_
  refine CW.seq (fun K2 hK2 hE2 => ?_)
  refine CW.region ?_
  refine LR.v (Y.move rfl rfl) (Wd.u rfl) rfl rfl ?_
  refine LR.v (Y.cast (v2 := .int .i64 ((n * 37 : Nat) : Int)) (Y.muli rfl rfl rfl (by omega)) (ivv (by omega))) (Wd.u rfl) rfl rfl ?_
  refine LR.v (Y.conv_u8 rfl Try.runUnderlying3 Try.runUnderlying5 rfl) (Wd.u rfl) rfl rfl ?_
  refine LR.v (Y.move rfl rfl) (Wd.u rfl) rfl rfl ?_
  refine LR.v (Y.conv_u8 rfl Try.runUnderlying3 Try.runUnderlying5 rfl) (Wd.u rfl) rfl rfl ?_
  refine LR.v (Y.move rfl rfl) (Wd.u rfl) rfl rfl ?_
  refine LR.v (Y.shrn (8) rfl rfl rfl (by first | rfl | omega) (by omega)) (Wd.u rfl) rfl rfl ?_
  refine LR.v (Y.conv_u8 rfl Try.runUnderlying3 Try.runUnderlying5 rfl) (Wd.u rfl) rfl rfl ?_
  refine LR.v (Y.build (v := vA (idn n)) rfl rfl (by intro w; kernel_rfl)) (Wd.u rfl) rfl rfl ?_
  refine LR.s (S.var va2 (_) (fA (idn n)) rfl rfl rfl rfl (fA_one _) Try.sizeOf30 (fA_len _) (by first | decide | simp [fA_len]) ((splice_all2 (by first | exact (fA_len _).symm | rfl | exact (fA_len _).trans (fA_len _).symm)))) (Wd.u rfl) rfl (fun H1_9 r1_9 => ?_)
  obtain ⟨va2, hs1_9⟩ := r1_9
  replace hs1_9 := hs1_9.md1
  replace hm0 := (Mo.trL (ks := []) (hm0.mdn []) hs1_9 (MIL.cons (MI.app MI.z (nx1) (Nat.le_refl _)) MIL.nil)).nil
  have hz2 := hs1_9.size
  refine LR.nil ?_
  refine hK2 _ _ ?_
  refine CW.ret (hret .ret (.inr rfl) _ _ _ (resC rfl rfl va2.pt Try.isAgg30 Try.sizeOf30 (fA_len _)) ?_)
  exact ⟨rfl, hm0⟩

theorem nbn_ct (n : Nat) (w0 : World) (H0 : Heap)
    (hn : n ≤ 16777215) :
    Ct Try.prog w0 26 #[.int .i64 (n : Int)] H0 (fun r H2 => r = vA (nbn n) ∧ Nw H0 H2) := by
  refine Ct.enter (args := [.int .i64 (n : Int)]) Try.func26 rfl rfl rfl ?_
  intro Q0 hret
  have hm0 : Nw H0 H0 := Mo.refl _ _
  refine CW.seq (fun K1 hK1 hE1 => ?_)
  refine CW.region ?_
  refine LR.z (Z.allocv rfl Try.zeroValue30) (Wd.u rfl) rfl rfl (fun v2 H2 r2 => ?_)
  obtain ⟨rfl, va2, hs2, ob2, hH2⟩ := r2
  have hzs2 : H2.size = H0.size + 1 := by rw [hH2]; simp
  have nx1 : Nx 0 H0.size (H0.size + 1) := Nx.new hm0.size
  replace hm0 := hm0.tr hs2
  have hz1 := hs2.size
  replace va2 : Var 30 H2 H0.size (fA Zid) := va2
  refine LR.nil ?_
  refine hK1 _ _ ?_
  refine CW.seq (fun K2 hK2 hE2 => ?_)
  refine CW.region ?_
  refine LR.v (Y.move rfl rfl) (Wd.u rfl) rfl rfl ?_
  refine LR.v (Y.shrn (16) rfl rfl rfl (by first | rfl | omega) (by omega)) (Wd.u rfl) rfl rfl ?_
  refine LR.v (Y.conv_u8 rfl Try.runUnderlying3 Try.runUnderlying5 rfl) (Wd.u rfl) rfl rfl ?_
  refine LR.v (Y.move rfl rfl) (Wd.u rfl) rfl rfl ?_
  refine LR.v (Y.shrn (8) rfl rfl rfl (by first | rfl | omega) (by omega)) (Wd.u rfl) rfl rfl ?_
  refine LR.v (Y.conv_u8 rfl Try.runUnderlying3 Try.runUnderlying5 rfl) (Wd.u rfl) rfl rfl ?_
  refine LR.v (Y.move rfl rfl) (Wd.u rfl) rfl rfl ?_
  refine LR.v (Y.conv_u8 rfl Try.runUnderlying3 Try.runUnderlying5 rfl) (Wd.u rfl) rfl rfl ?_
  refine LR.v (Y.build (v := vA (nbn n)) rfl rfl (by intro w; kernel_rfl)) (Wd.u rfl) rfl rfl ?_
  refine LR.s (S.var va2 (_) (fA (nbn n)) rfl rfl rfl rfl (fA_one _) Try.sizeOf30 (fA_len _) (by first | decide | simp [fA_len]) ((splice_all2 (by first | exact (fA_len _).symm | rfl | exact (fA_len _).trans (fA_len _).symm)))) (Wd.u rfl) rfl (fun H1_9 r1_9 => ?_)
  obtain ⟨va2, hs1_9⟩ := r1_9
  replace hs1_9 := hs1_9.md1
  replace hm0 := (Mo.trL (ks := []) (hm0.mdn []) hs1_9 (MIL.cons (MI.app MI.z (nx1) (Nat.le_refl _)) MIL.nil)).nil
  have hz2 := hs1_9.size
  refine LR.nil ?_
  refine hK2 _ _ ?_
  refine CW.ret (hret .ret (.inr rfl) _ _ _ (resC rfl rfl va2.pt Try.isAgg30 Try.sizeOf30 (fA_len _)) ?_)
  exact ⟨rfl, hm0⟩

theorem within_ct (a : Int) (n : Nat) (w0 : World) (H0 : Heap)
    (hn : 1 ≤ n ∧ n ≤ 1000000) (ha : -9223372036854775808 ≤ a ∧ a ≤ 9223372036854775807) :
    Ct Try.prog w0 14 #[.int .i64 a, .int .i64 (n : Int)] H0 (fun r H2 => ∃ q : Nat, r = .int .i64 (q : Int) ∧ (q < n) ∧ Nw H0 H2) := by
  refine Ct.enter (args := [.int .i64 a, .int .i64 (n : Int)]) Try.func14 rfl rfl rfl ?_
  intro Q0 hret
  have hm0 : Nw H0 H0 := Mo.refl _ _
  refine CW.seq (fun K1 hK1 hE1 => ?_)
  refine CW.region ?_
  refine LR.v (Y.assign rfl rfl) (Wd.u rfl) rfl rfl ?_
  refine LR.nil ?_
  refine hK1 _ _ ?_
  refine CW.seq (fun K2 hK2 hE2 => ?_)
  refine CW.region ?_
  refine LR.v (Y.move rfl rfl) (Wd.u rfl) rfl rfl ?_
  refine LR.v (Y.move rfl rfl) (Wd.u rfl) rfl rfl ?_
  refine LR.v (Y.rem rfl rfl rfl (by omega)) (Wd.u rfl) rfl rfl ?_
  have ht1 := Int.tmod_lt_of_pos a (show (0 : Int) < n by omega)
  have ht2 := Int.lt_tmod_of_pos a (show (0 : Int) < n by omega)
  refine LR.v (Y.assign rfl rfl) (Wd.u rfl) rfl rfl ?_
  refine LR.nil ?_
  refine hK2 _ _ ?_
  refine CW.seq (fun K3 hK3 hE3 => ?_)
  refine CW.seq (fun K4 hK4 hE4 => ?_)
  refine CW.region ?_
  refine LR.v (Y.move rfl rfl) (Wd.u rfl) rfl rfl ?_
  refine LR.v (Y.lss rfl rfl rfl) (Wd.u rfl) rfl rfl ?_
  refine LR.nil ?_
  refine hK4 _ _ ?_
  refine CW.condp rfl (fun c10 => ?_) (fun c10 => ?_)
  ·
    refine CW.region ?_
    refine LR.v (Y.move rfl rfl) (Wd.u rfl) rfl rfl ?_
    refine LR.v (Y.move rfl rfl) (Wd.u rfl) rfl rfl ?_
    refine LR.v (Y.addi rfl rfl rfl (by omega)) (Wd.u rfl) rfl rfl ?_
    refine LR.v (Y.assign rfl rfl) (Wd.u rfl) rfl rfl ?_
    refine LR.nil ?_
    refine hK3 _ _ ?_
    refine CW.seq (fun K5 hK5 hE5 => ?_)
    refine CW.region ?_
    refine LR.v (Y.move rfl rfl) (Wd.u rfl) rfl rfl ?_
    refine LR.v (Y.assign rfl rfl) (Wd.u rfl) rfl rfl ?_
    refine LR.nil ?_
    refine hK5 _ _ ?_
    refine CW.ret (hret .ret (.inr rfl) _ _ _ (res1 rfl rfl) ?_)
    exact ⟨(a.tmod n + n).toNat, ivv (by omega), by omega, hm0⟩
  ·
    refine CW.skip ?_
    refine hK3 _ _ ?_
    refine CW.seq (fun K6 hK6 hE6 => ?_)
    refine CW.region ?_
    refine LR.v (Y.move rfl rfl) (Wd.u rfl) rfl rfl ?_
    refine LR.v (Y.assign rfl rfl) (Wd.u rfl) rfl rfl ?_
    refine LR.nil ?_
    refine hK6 _ _ ?_
    refine CW.ret (hret .ret (.inr rfl) _ _ _ (res1 rfl rfl) ?_)
    exact ⟨(a.tmod n).toNat, ivv (by omega), by omega, hm0⟩

theorem srcp_ct (sb : Nat) (v : SV) (l : List Rw) (n : Nat) (i : Ide) (F : Nat → Prop) (w0 : World) (H0 : Heap)
    (hv : Var 27 H0 sb [v.v, .int .i64 (n : Int)]) (hl : Rd F H0 fRw 1 v.v l) (hx : ∀ x ∈ l, Rd F H0 fN 1 x.v.v x.l) (bf_hl : BF F H0.size) (bf_hx : BF F H0.size) (dfl : DF F (sb + 1)) (dfx : DF F (sb + 1)) (hll : l.length ≤ 1000) (hlx : ∀ x ∈ l, x.l.length ≤ 1000 ∧ ∀ k ∈ x.l, k ≤ 100000) (hn : n ≤ 1000000000) :
    Ct Try.prog w0 87 #[.pointer (some ⟨sb, 0, none⟩), vA i] H0 (fun r H2 => ∃ s : SV, ∃ ps : List Ide, ∃ e : Nat, r = .tuple #[s.v, eV e] ∧ ((e = 0 ∧ paL (l.map (·.l)) i = some ps) ∨ (e = 2 ∧ paL (l.map (·.l)) i = none ∧ ps = [])) ∧ (Rd (fun b => H0.size ≤ b) H2 fA 32 s.v ps) ∧ (Var 27 H2 sb [v.v, .int .i64 ((n + 1 : Nat) : Int)]) ∧ Mo (Ms [(sb + 1)]) H0 H2) := by
  refine Ct.enter (args := [.pointer (some ⟨sb, 0, none⟩), vA i]) Try.func87 rfl rfl rfl ?_
  intro Q0 hret
  have hm0 : Mo (Ms [(sb + 1)]) H0 H0 := Mo.refl _ _
  have nx_hm0_hv := Nx.refl (sb + 1) H0.size
  have hlt_hv := hv.lt
  refine CW.seq (fun K1 hK1 hE1 => ?_)
  refine CW.region ?_
  refine LR.z (Z.boxv rfl rfl) (Wd.u rfl) rfl rfl (fun v3 H3 r3 => ?_)
  obtain ⟨rfl, vi, hs3, ob3, hH3⟩ := r3
  have hzs3 : H3.size = H0.size + 1 := by rw [hH3]; simp
  have dj1 : Dj (sb + 1) (H0.size + 1) := Dj.new hv.lt
  have df2 := (DF.new (bf_hl.mono hm0.size) : DF _ (H0.size + 1))
  have df3 := (DF.new (bf_hx.mono hm0.size) : DF _ (H0.size + 1))
  have nx4 : Nx 0 H0.size (H0.size + 1) := Nx.new hm0.size
  replace hv := hv.nw hs3
  replace hl := hl.nw hs3
  replace hx := fun x h_ => (hx x h_).nw hs3
  replace hm0 := hm0.trN hs3
  have hz1 := hs3.size
  replace vi : Var 30 H3 H0.size (fA i) := vi
  refine LR.v (Y.assign rfl rfl) (Wd.u rfl) rfl rfl ?_
  refine LR.v (Y.assign rfl rfl) (Wd.u rfl) rfl rfl ?_
  refine LR.nil ?_
  refine hK1 _ _ ?_
  refine CW.seq (fun K2 hK2 hE2 => ?_)
  refine CW.region ?_
  refine LR.v (Y.move rfl rfl) (Wd.u rfl) rfl rfl ?_
  refine LR.v (Y.nilCheck rfl rfl) (Wd.u rfl) rfl rfl ?_
  refine LR.v (Y.fieldAddr hv.pt rfl Try.runUnderlying27 rfl rfl Try.sizeOf3 (by decide) rfl) (Wd.u rfl) rfl rfl ?_
  refine LR.v (Y.load1 (hv.pt.drop 1) rfl Try.isAgg3 rfl) (Wd.u rfl) rfl rfl ?_
  refine LR.v (Y.addi rfl rfl rfl (by omega)) (Wd.u rfl) rfl rfl ?_
  refine LR.v (Y.nilCheck rfl rfl) (Wd.u rfl) rfl rfl ?_
  refine LR.v (Y.fieldAddr hv.pt rfl Try.runUnderlying27 rfl rfl Try.sizeOf3 (by decide) rfl) (Wd.u rfl) rfl rfl ?_
  refine LR.s (S.var1 hv 1 ([v.v, .int .i64 ((n + 1 : Nat) : Int)]) rfl rfl rfl (rfl) Try.sizeOf3 (by simp) (rfl)) (Wd.u rfl) rfl (fun H1_7 r1_7 => ?_)
  obtain ⟨hv, hs1_7⟩ := r1_7
  replace hs1_7 := hs1_7.md1
  replace hl := hl.upL hs1_7 (DFL.cons dfl DFL.nil)
  replace hx := fun x h_ => (hx x h_).upL hs1_7 (DFL.cons dfx DFL.nil)
  replace vi := vi.upL hs1_7 (DL.cons dj1.symm DL.nil)
  replace hm0 := hm0.trL hs1_7 (MIL.cons (MI.app (MI.root (by simp)) (nx_hm0_hv) (Nat.le_refl _)) MIL.nil)
  have hz2 := hs1_7.size
  refine LR.nil ?_
  refine hK2 _ _ ?_
  refine CW.seq (fun K3 hK3 hE3 => ?_)
  refine CW.seq (fun K4 hK4 hE4 => ?_)
  refine CW.region ?_
  refine LR.v (Y.assign rfl rfl) (Wd.u rfl) rfl rfl ?_
  refine LR.nil ?_
  refine hK4 _ _ ?_
  refine CW.block (fun K5 hK5 hX5 hE5 => ?_)
  refine CW.loop (fun (k : (Nat)) => [(0, .pointer (some ⟨sb, 0, none⟩)), (3, .pointer (some ⟨H0.size, 0, none⟩)), (6, .int .i64 (k : Int))])
    (fun (k : (Nat)) (H : Heap) => (k ≤ l.length) ∧ (∀ j, j < k → idn j ≠ i) ∧ Nw H1_7 H)
    (fun (k : (Nat)) => l.length - k) 0 ⟨rfl, rfl, rfl, trivial⟩ ?_ ?_
  ·
    exact ⟨(by omega), fun j h => by omega, Mo.refl _ _⟩
  intro k HL1 hI1 K6 hN6 hE6
  obtain ⟨hk, hno, hlm1⟩ := hI1
  replace hv := hv.nw hlm1
  replace hl := hl.nw hlm1
  replace hx := fun x h_ => (hx x h_).nw hlm1
  replace vi := vi.nw hlm1
  replace hm0 := hm0.trN hlm1
  have hz3 := hlm1.size
  refine CW.seq (fun K7 hK7 hE7 => ?_)
  refine CW.seq (fun K8 hK8 hE8 => ?_)
  refine CW.region ?_
  refine LR.v (Y.move rfl rfl) (Wd.u rfl) rfl rfl ?_
  refine LR.v (Y.move rfl rfl) (Wd.u rfl) rfl rfl ?_
  refine LR.v (Y.nilCheck rfl rfl) (Wd.u rfl) rfl rfl ?_
  refine LR.v (Y.fieldAddr hv.pt rfl Try.runUnderlying27 rfl rfl Try.sizeOf22 (by decide) rfl) (Wd.u rfl) rfl rfl ?_
  refine LR.v (Y.load1 hv.pt rfl Try.isAgg22 rfl) (Wd.u rfl) rfl rfl ?_
  refine LR.v (Y.len hl rfl Try.runUnderlying22 rfl) (Wd.u rfl) rfl rfl ?_
  refine LR.v (Y.lss rfl rfl rfl) (Wd.u rfl) rfl rfl ?_
  refine LR.nil ?_
  refine hK8 _ _ ?_
  refine CW.condp rfl (fun c22 => ?_) (fun c22 => ?_)
  ·
    refine CW.skip ?_
    refine hK7 _ _ ?_
    refine CW.seq (fun K9 hK9 hE9 => ?_)
    refine CW.block (fun K10 hK10 hX10 hE10 => ?_)
    refine CW.seq (fun K11 hK11 hE11 => ?_)
    refine CW.region_any (fun Hq => Nw HL1 Hq) [] rfl ?_
    have hqs := Nw.refl HL1
    refine LH.take 0 (by kernel_rfl) rfl (by kernel_rfl) (by kernel_rfl) (by kernel_rfl) (fun Hq hq => Y.move rfl rfl) (Wd.u rfl) rfl rfl hqs ?_
    refine LH.take 2 (by kernel_rfl) rfl (by kernel_rfl) (by kernel_rfl) (by kernel_rfl) (fun Hq hq => Y.loadN (vi.pt.nw hq) rfl Try.isAgg30 Try.sizeOf30 (fA_len _) rfl) (Wd.u rfl) rfl rfl hqs ?_
    refine LH.one (i := 1) (by kernel_rfl) ?_
    -- call selvage/selvagelaw11.Id
    refine LO.call rfl rfl Try.call12 rfl (Wd.u rfl) rfl rfl (idn_ct k w0 _ (by omega)) (fun v26 H26 r26 => ?_)
    obtain ⟨rfl, hs26⟩ := r26
    replace hv := hv.nw hs26
    replace hl := hl.nw hs26
    replace hx := fun x h_ => (hx x h_).nw hs26
    replace vi := vi.nw hs26
    replace hm0 := hm0.trN hs26
    replace hlm1 := hlm1.tr hs26
    have hz4 := hs26.size
    have hq26 := hqs.tr hs26
    refine ⟨.inr hq26, LH.narrow (SH2 := fun Hq => Nw H26 Hq) (fun Hq hq => hq26.tr hq) ?_⟩
    have hqn26 := Nw.refl H26
    refine LH.take 3 (by kernel_rfl) rfl (by kernel_rfl) (by kernel_rfl) (by kernel_rfl) (fun Hq hq => Y.aeql rfl Try.eqGuardType30 (fun w => run_equalIn_id 9998 Try.underlying30 Try.underlying5 Try.sizeOf5 Try.isAgg5 ((idn k).2) (i.2) w) rfl rfl) (Wd.u rfl) rfl rfl hqn26 ?_
    refine LH.done (by kernel_rfl) ?_
    have hqe := hqn26
    refine hK11 _ _ ?_
    refine CW.condp rfl (fun c28 => ?_) (fun c28 => ?_)
    ·
      have hkl : k < l.length := by omega
      refine CW.seq (fun K12 hK12 hE12 => ?_)
      refine CW.region ?_
      refine LR.v (Y.assign rfl rfl) (Wd.u rfl) rfl rfl ?_
      refine LR.nil ?_
      refine hK12 _ _ ?_
      refine CW.seq (fun K13 hK13 hE13 => ?_)
      refine CW.seq (fun K14 hK14 hE14 => ?_)
      refine CW.region ?_
      refine LR.v (Y.assign rfl rfl) (Wd.u rfl) rfl rfl ?_
      refine LR.nil ?_
      refine hK14 _ _ ?_
      refine CW.block (fun K15 hK15 hX15 hE15 => ?_)
      refine CW.loop (fun (s_ : (Nat) × (SV) × (Nat)) => match s_ with | (q, o, ko) => [(0, .pointer (some ⟨sb, 0, none⟩)), (6, .int .i64 (k : Int)), (7, o.v), (8, .int .i64 (q : Int))])
        (fun (s_ : (Nat) × (SV) × (Nat)) (H : Heap) => match s_ with | (q, o, ko) => (q ≤ l[k].l.length) ∧ (Ow ko 30 H fA 32 o.v ((l[k].l.take q).map idn)) ∧ (Nx 0 H26.size ko) ∧ Nw H26 H)
        (fun (s_ : (Nat) × (SV) × (Nat)) => match s_ with | (q, o, ko) => l[k].l.length - q) (0, ⟨none, 0, 0⟩, 0) ⟨rfl, rfl, rfl, rfl, trivial⟩ ?_ ?_
      ·
        exact ⟨(by omega), Ow.nil fA_len fA_one, Nx.refl _ _, Mo.refl _ _⟩
      rintro ⟨q, o, ko⟩ HL2 hI2 K16 hN16 hE16
      obtain ⟨hq, ow, nxl_ow, hlm2⟩ := hI2
      have dj5 : Dj (sb + 1) ko := Dj.app (Dj.z) hv.lt nxl_ow
      have df6 := DF.app (DF.z) (bf_hl.mono hm0.size) nxl_ow
      have df7 := DF.app (DF.z) (bf_hx.mono hm0.size) nxl_ow
      have nx8 : Nx 0 H0.size ko := Nx.tr (Nx.refl 0 _) nxl_ow hm0.size
      have nx9 : Nx 0 H1_7.size ko := Nx.tr (Nx.refl 0 _) nxl_ow hlm1.size
      replace hv := hv.nw hlm2
      replace hl := hl.nw hlm2
      replace hx := fun x h_ => (hx x h_).nw hlm2
      replace hm0 := hm0.trN hlm2
      replace hlm1 := hlm1.tr hlm2
      have hz5 := hlm2.size
      have hle_ow := ow.le
      have nx10 := nxl_ow
      have hlk := (hlx _ (List.getElem_mem (by omega : k < l.length))).1
      refine CW.seq (fun K17 hK17 hE17 => ?_)
      refine CW.seq (fun K18 hK18 hE18 => ?_)
      refine CW.region ?_
      refine LR.v (Y.move rfl rfl) (Wd.u rfl) rfl rfl ?_
      refine LR.v (Y.move rfl rfl) (Wd.u rfl) rfl rfl ?_
      refine LR.v (Y.nilCheck rfl rfl) (Wd.u rfl) rfl rfl ?_
      refine LR.v (Y.fieldAddr hv.pt rfl Try.runUnderlying27 rfl rfl Try.sizeOf22 (by decide) rfl) (Wd.u rfl) rfl rfl ?_
      refine LR.v (Y.load1 hv.pt rfl Try.isAgg22 rfl) (Wd.u rfl) rfl rfl ?_
      refine LR.v (Y.move rfl rfl) (Wd.u rfl) rfl rfl ?_
      refine LR.e (g := fun ad => .pointer (some ad)) (Y.indexAddrF hl (k) rfl Try.runUnderlying22 Try.sizeOf38 rfl rfl (by first | rfl | omega) (by omega)) (Wd.u rfl) rfl rfl (fun ad35 pt35 => ?_)
      have bf_pt35 := bf_hl
      refine LR.v (Y.load1 pt35.pt rfl Try.isAgg38 rfl) (Wd.u rfl) rfl rfl ?_
      refine LR.v (Y.len (hx _ (List.getElem_mem (by omega : k < l.length))) rfl Try.runUnderlying38 rfl) (Wd.u rfl) rfl rfl ?_
      refine LR.v (Y.lss rfl rfl rfl) (Wd.u rfl) rfl rfl ?_
      refine LR.nil ?_
      refine hK18 _ _ ?_
      refine CW.condp rfl (fun c38 => ?_) (fun c38 => ?_)
      ·
        refine CW.skip ?_
        refine hK17 _ _ ?_
        refine CW.seq (fun K19 hK19 hE19 => ?_)
        refine CW.block (fun K20 hK20 hX20 hE20 => ?_)
        refine CW.region ?_
        refine LR.v (Y.move rfl rfl) (Wd.u rfl) rfl rfl ?_
        refine LR.v (Y.move rfl rfl) (Wd.u rfl) rfl rfl ?_
        refine LR.v (Y.nilCheck rfl rfl) (Wd.u rfl) rfl rfl ?_
        refine LR.v (Y.fieldAddr hv.pt rfl Try.runUnderlying27 rfl rfl Try.sizeOf22 (by decide) rfl) (Wd.u rfl) rfl rfl ?_
        refine LR.v (Y.load1 hv.pt rfl Try.isAgg22 rfl) (Wd.u rfl) rfl rfl ?_
        refine LR.v (Y.move rfl rfl) (Wd.u rfl) rfl rfl ?_
        refine LR.e (g := fun ad => .pointer (some ad)) (Y.indexAddrF hl (k) rfl Try.runUnderlying22 Try.sizeOf38 rfl rfl (by first | rfl | omega) (by omega)) (Wd.u rfl) rfl rfl (fun ad47 pt47 => ?_)
        have bf_pt47 := bf_hl
        refine LR.v (Y.load1 pt47.pt rfl Try.isAgg38 rfl) (Wd.u rfl) rfl rfl ?_
        refine LR.v (Y.move rfl rfl) (Wd.u rfl) rfl rfl ?_
        refine LR.e (g := fun ad => .pointer (some ad)) (Y.indexAddrF (hx _ (List.getElem_mem (by omega : k < l.length))) (q) rfl Try.runUnderlying38 Try.sizeOf3 rfl rfl (by first | rfl | omega) (by omega)) (Wd.u rfl) rfl rfl (fun ad50 pt50 => ?_)
        have bf_pt50 := bf_hx
        refine LR.v (Y.load1 pt50.pt rfl Try.isAgg3 rfl) (Wd.u rfl) rfl rfl ?_
        have hkb := (hlx _ (List.getElem_mem (by omega : k < l.length))).2 _ (List.getElem_mem (show q < l[k].l.length by omega))
        -- call selvage/selvagelaw11.Id
        refine LR.call rfl Try.call12 rfl (Wd.u rfl) rfl rfl (idn_ct _ w0 _ (by omega)) (fun v52 H52 r52 => ?_)
        obtain ⟨rfl, hs52⟩ := r52
        replace hv := hv.nw hs52
        replace hl := hl.nw hs52
        replace hx := fun x h_ => (hx x h_).nw hs52
        replace ow := ow.nw hs52
        replace pt47 := pt47.nw hs52
        replace pt50 := pt50.nw hs52
        replace hm0 := hm0.trN hs52
        replace hlm1 := hlm1.tr hs52
        replace hlm2 := hlm2.tr hs52
        have hz6 := hs52.size
        refine LR.z (Z.litw _ ([idn l[k].l[q]]) rfl inf28 rfl rfl rfl (by decide) (by decide) fA_len fA_one (rfl)) (Wd.u rfl) rfl rfl (fun v53 H53 r53 => ?_)
        obtain ⟨ow53, hs53, ob53, hH53⟩ := r53
        have hzs53 : H53.size = H52.size + 1 := by rw [hH53]; simp
        have dj11 : Dj (sb + 1) (H52.size + 1) := Dj.new hv.lt
        have df12 := (DF.new (bf_hl.mono hm0.size) : DF _ (H52.size + 1))
        have df13 := (DF.new (bf_hx.mono hm0.size) : DF _ (H52.size + 1))
        have dj14 : Dj ko (H52.size + 1) := Dj.new ow.le
        have df15 := (DF.new (bf_pt47.mono hm0.size) : DF _ (H52.size + 1))
        have df16 := (DF.new (bf_pt50.mono hm0.size) : DF _ (H52.size + 1))
        have nx17 : Nx 0 H0.size (H52.size + 1) := Nx.new hm0.size
        have nx18 : Nx 0 H1_7.size (H52.size + 1) := Nx.new hlm1.size
        have nx19 : Nx 0 H26.size (H52.size + 1) := Nx.new hlm2.size
        replace hv := hv.nw hs53
        replace hl := hl.nw hs53
        replace hx := fun x h_ => (hx x h_).nw hs53
        replace ow := ow.nw hs53
        replace pt47 := pt47.nw hs53
        replace pt50 := pt50.nw hs53
        replace hm0 := hm0.trN hs53
        replace hlm1 := hlm1.tr hs53
        replace hlm2 := hlm2.tr hs53
        have hz7 := hs53.size
        refine LR.z (Z.apnd ow ow53.rd rfl inf28 rfl rfl (by first | omega | (simp; omega)) (by first | omega | (simp; omega))) (Wd.u rfl) rfl rfl (fun v54 H54 r54 => ?_)
        obtain ⟨k54, ow54, hk54, hs54⟩ := r54
        replace hk54 : Nx ko H53.size k54 := hk54
        replace hs54 := hs54.md
        have dj20 : Dj (sb + 1) k54 := Dj.app (dj5) hv.lt hk54
        have df21 := DF.app (df6) (bf_hl.mono hm0.size) hk54
        have df22 := DF.app (df7) (bf_hx.mono hm0.size) hk54
        have df23 := DF.app (df6) (bf_pt47.mono hm0.size) hk54
        have df24 := DF.app (df7) (bf_pt50.mono hm0.size) hk54
        have dj25 : Dj (H52.size + 1) k54 := Dj.app (dj14.symm) ow53.le hk54
        have nx26 : Nx 0 H0.size k54 := Nx.tr (nx8) hk54 hm0.size
        have nx27 : Nx 0 H1_7.size k54 := Nx.tr (nx9) hk54 hlm1.size
        have nx28 : Nx 0 H26.size k54 := Nx.tr (nx10) hk54 hlm2.size
        replace hv := hv.upL hs54 (DL.cons dj5 DL.nil)
        replace hl := hl.upL hs54 (DFL.cons df6 DFL.nil)
        replace hx := fun x h_ => (hx x h_).upL hs54 (DFL.cons df7 DFL.nil)
        replace pt47 := pt47.upL hs54 (DFL.cons df6 DFL.nil)
        replace pt50 := pt50.upL hs54 (DFL.cons df7 DFL.nil)
        replace ow53 := ow53.upL hs54 (DL.cons dj14.symm DL.nil)
        replace hm0 := hm0.trL hs54 (MIL.cons (MI.app MI.z (nx8) (Nat.le_refl _)) MIL.nil)
        replace hlm1 := (Mo.trL (ks := []) (hlm1.mdn []) hs54 (MIL.cons (MI.app MI.z (nx9) (Nat.le_refl _)) MIL.nil)).nil
        replace hlm2 := (Mo.trL (ks := []) (hlm2.mdn []) hs54 (MIL.cons (MI.app MI.z (nx10) (Nat.le_refl _)) MIL.nil)).nil
        have hz8 := hs54.size
        have hle_ow54 := ow54.le
        obtain ⟨s54, rfl⟩ : ∃ s : SV, v54 = s.v := ⟨toSV v54, ow54.sv.symm⟩
        refine LR.v (Y.assign rfl rfl) (Wd.u rfl) rfl rfl ?_
        refine LR.nil ?_
        refine hK20 _ _ ?_
        refine hK19 _ _ ?_
        refine CW.region ?_
        refine LR.v (Y.move rfl rfl) (Wd.u rfl) rfl rfl ?_
        refine LR.v (Y.addi rfl rfl rfl (by omega)) (Wd.u rfl) rfl rfl ?_
        refine LR.v (Y.assign rfl rfl) (Wd.u rfl) rfl rfl ?_
        refine LR.nil ?_
        refine QN.sub (hN16 (q + 1, s54, k54) _ ?_ ?_) ⟨rfl, (iv (by omega)), rfl, (iv (by omega)), trivial⟩
        · exact ⟨(by omega), by rw [List.take_succ_eq_append_getElem (show q < l[k].l.length by omega), List.map_append]; exact ow54, (by assumption), hlm2⟩
        · first | omega | (simp only; omega) | (simp; omega)
      ·
        refine CW.exit (hE17 (.exit 2) nofun _ _ (hE16 (.exit 2) nofun _ _ (hX15 _ _ ?_)))
        refine hK13 _ _ ?_
        refine CW.seq (fun K21 hK21 hE21 => ?_)
        refine CW.region ?_
        refine LR.v (Y.move rfl rfl) (Wd.u rfl) rfl rfl ?_
        refine LR.v (Y.assign rfl rfl) (Wd.u rfl) rfl rfl ?_
        refine LR.v (Y.assign rfl rfl) (Wd.u rfl) rfl rfl ?_
        refine LR.nil ?_
        refine hK21 _ _ ?_
        refine CW.ret (hE10 .ret nofun (by simp) _ _ (hE9 .ret nofun _ _ (hE6 .ret nofun _ _ (hE5 .ret nofun (by simp) _ _ (hE3 .ret nofun _ _ (hret .ret (.inr rfl) _ _ _ (res2 rfl rfl rfl) ?_))))))
        have hql : q = l[k].l.length := by omega
        exact ⟨o, l[k].l.map idn, 0, rfl, .inl ⟨rfl, by rw [paL_some (k := k) (by simpa using hkl) (Subtype.ext c28) hno]; simp⟩, by rw [hql, List.take_length] at ow; exact ow.fre (nx8), hv, hm0⟩
    ·
      refine CW.skip ?_
      refine hK10 _ _ ?_
      refine hK9 _ _ ?_
      refine CW.region ?_
      refine LR.v (Y.move rfl rfl) (Wd.u rfl) rfl rfl ?_
      refine LR.v (Y.addi rfl rfl rfl (by omega)) (Wd.u rfl) rfl rfl ?_
      refine LR.v (Y.assign rfl rfl) (Wd.u rfl) rfl rfl ?_
      refine LR.nil ?_
      refine QN.sub (hN6 (k + 1) _ ?_ ?_) ⟨rfl, rfl, (iv (by omega)), trivial⟩
      · exact ⟨(by omega), fun j h => by
          by_cases h2 : j < k
          · exact hno j h2
          · obtain rfl : j = k := by omega
            exact fun e => c28 (congrArg Subtype.val e), hlm1⟩
      · first | omega | (simp only; omega) | (simp; omega)
  ·
    refine CW.exit (hE7 (.exit 0) nofun _ _ (hE6 (.exit 0) nofun _ _ (hX5 _ _ ?_)))
    refine hK3 _ _ ?_
    refine CW.seq (fun K22 hK22 hE22 => ?_)
    refine CW.region ?_
    refine LR.v (Y.mki rfl Try.runUnderlying76 (by intro ms h; cases h) rfl) (Wd.u rfl) rfl rfl ?_
    refine LR.v (Y.assign rfl rfl) (Wd.u rfl) rfl rfl ?_
    refine LR.v (Y.assign rfl rfl) (Wd.u rfl) rfl rfl ?_
    refine LR.nil ?_
    refine hK22 _ _ ?_
    refine CW.ret (hret .ret (.inr rfl) _ _ _ (res2 rfl rfl rfl) ?_)
    exact ⟨⟨none, 0, 0⟩, [], 2, rfl, .inr ⟨rfl, paL_none (fun j hj => hno j (by simp at hj; omega)), rfl⟩, Rd.nil _ _ _ _, hv, hm0⟩


/-- the number in a name -/
def nbi (i : Ide) : Nat := ((i.1.getD 1 0).toNat * 2 ^ 16 ||| (i.1.getD 2 0).toNat * 2 ^ 8) ||| (i.1.getD 3 0).toNat
def paN (N : Nat) (lad : Bool) (i : Ide) : Option (List Ide) :=
  if nbn (nbi i) ≠ i ∨ N ≤ nbi i then none else if lad = true then (if nbi i < 2 then some [] else some [nbn (nbi i / 2 * 2 - 2), nbn (nbi i / 2 * 2 - 1)]) else if nbi i = 0 then some [] else some [nbn (nbi i - 1)]
theorem or3 (a b c : Nat) (hb : b < 256) (hc : c < 256) : ((a * 2 ^ 16 ||| b * 2 ^ 8) ||| c) = a * 65536 + b * 256 + c := by
  have h1 : 2 ^ 16 * a + b * 2 ^ 8 = 2 ^ 16 * a ||| b * 2 ^ 8 := Nat.two_pow_add_eq_or_of_lt (by omega) a
  have h2 : 2 ^ 8 * (a * 256 + b) + c = 2 ^ 8 * (a * 256 + b) ||| c := Nat.two_pow_add_eq_or_of_lt (by omega) _
  rw [Nat.mul_comm a, ← h1, show 2 ^ 16 * a + b * 2 ^ 8 = 2 ^ 8 * (a * 256 + b) by omega, ← h2]
theorem nbi_eq (i : Ide) : nbi i = (i.1.getD 1 0).toNat * 65536 + (i.1.getD 2 0).toNat * 256 + (i.1.getD 3 0).toNat := or3 _ _ _ (UInt8.toNat_lt _) (UInt8.toNat_lt _)
theorem nbi_lt (i : Ide) : nbi i < 16777216 := by
  rw [nbi_eq]
  have h1 := (i.1.getD 1 0).toNat_lt; have h2 := (i.1.getD 2 0).toNat_lt; have h3 := (i.1.getD 3 0).toNat_lt
  omega
theorem fA_at (i : Ide) (k : Nat) (h : k < 32) : (fA i)[k]? = some (.int .u8 (i.1.getD k 0).toNat) := by
  have h2 : k < i.1.length := by rw [i.2]; exact h
  simp [fA, List.getD_eq_getElem?_getD, List.getElem?_eq_getElem h2]

theorem rowp_ct (sb : Nat) (N : Nat) (lad : Bool) (i : Ide) (w0 : World) (H0 : Heap)
    (hv : Var 63 H0 sb [.int .i64 (N : Int), .bool lad]) (hN : N ≤ 1000000) :
    Ct Try.prog w0 88 #[.pointer (some ⟨sb, 0, none⟩), vA i] H0 (fun r H2 => ∃ s : SV, ∃ ps : List Ide, ∃ e : Nat, r = .tuple #[s.v, eV e] ∧ ((e = 0 ∧ paN N lad i = some ps) ∨ (e = 2 ∧ paN N lad i = none ∧ ps = [])) ∧ (Rd (fun b => H0.size ≤ b) H2 fA 32 s.v ps) ∧ Nw H0 H2) := by
  refine Ct.enter (args := [.pointer (some ⟨sb, 0, none⟩), vA i]) Try.func88 rfl rfl rfl ?_
  intro Q0 hret
  have hm0 : Nw H0 H0 := Mo.refl _ _
  have nx_hm0_hv := Nx.refl (sb + 1) H0.size
  have hlt_hv := hv.lt
  have hlt := nbi_lt i
  have hb1 := (i.1.getD 1 0).toNat_lt
  have hb2 := (i.1.getD 2 0).toNat_lt
  have hb3 := (i.1.getD 3 0).toNat_lt
  have hor1 := or3 (i.1.getD 1 0).toNat (i.1.getD 2 0).toNat 0 (by omega) (by omega)
  simp only [Nat.or_zero] at hor1
  refine CW.seq (fun K1 hK1 hE1 => ?_)
  refine CW.region ?_
  refine LR.z (Z.boxv rfl rfl) (Wd.u rfl) rfl rfl (fun v3 H3 r3 => ?_)
  obtain ⟨rfl, vi, hs3, ob3, hH3⟩ := r3
  have hzs3 : H3.size = H0.size + 1 := by rw [hH3]; simp
  have dj1 : Dj (sb + 1) (H0.size + 1) := Dj.new hv.lt
  have nx2 : Nx 0 H0.size (H0.size + 1) := Nx.new hm0.size
  replace hv := hv.nw hs3
  replace hm0 := hm0.tr hs3
  have hz1 := hs3.size
  replace vi : Var 30 H3 H0.size (fA i) := vi
  refine LR.v (Y.assign rfl rfl) (Wd.u rfl) rfl rfl ?_
  refine LR.v (Y.assign rfl rfl) (Wd.u rfl) rfl rfl ?_
  refine LR.nil ?_
  refine hK1 _ _ ?_
  refine CW.seq (fun K2 hK2 hE2 => ?_)
  refine CW.region ?_
  refine LR.v (Y.arrAddr vi.pt (1) rfl Try.runUnderlying30 Try.sizeOf5 rfl rfl (by first | rfl | omega) (by first | omega | (simp; omega) | (simp; done))) (Wd.u rfl) rfl rfl ?_
  refine LR.v (Y.load1 (vi.pt.at 1 (fA_at i 1 (by omega))) rfl Try.isAgg5 rfl) (Wd.u rfl) rfl rfl ?_
  refine LR.v (Y.conv8i rfl Try.runUnderlying5 Try.runUnderlying3 rfl) (Wd.u rfl) rfl rfl ?_
  refine LR.v (Y.shln (16) rfl rfl rfl (by first | rfl | omega) (by omega) (by omega)) (Wd.u rfl) rfl rfl ?_
  refine LR.v (Y.arrAddr vi.pt (2) rfl Try.runUnderlying30 Try.sizeOf5 rfl rfl (by first | rfl | omega) (by first | omega | (simp; omega) | (simp; done))) (Wd.u rfl) rfl rfl ?_
  refine LR.v (Y.load1 (vi.pt.at 2 (fA_at i 2 (by omega))) rfl Try.isAgg5 rfl) (Wd.u rfl) rfl rfl ?_
  refine LR.v (Y.conv8i rfl Try.runUnderlying5 Try.runUnderlying3 rfl) (Wd.u rfl) rfl rfl ?_
  refine LR.v (Y.shln (8) rfl rfl rfl (by first | rfl | omega) (by omega) (by omega)) (Wd.u rfl) rfl rfl ?_
  refine LR.v (Y.orn rfl rfl rfl (by omega) (by omega)) (Wd.u rfl) rfl rfl ?_
  refine LR.v (Y.arrAddr vi.pt (3) rfl Try.runUnderlying30 Try.sizeOf5 rfl rfl (by first | rfl | omega) (by first | omega | (simp; omega) | (simp; done))) (Wd.u rfl) rfl rfl ?_
  refine LR.v (Y.load1 (vi.pt.at 3 (fA_at i 3 (by omega))) rfl Try.isAgg5 rfl) (Wd.u rfl) rfl rfl ?_
  refine LR.v (Y.conv8i rfl Try.runUnderlying5 Try.runUnderlying3 rfl) (Wd.u rfl) rfl rfl ?_
  refine LR.v (Y.cast (v2 := .int .i64 (nbi i : Nat)) (Y.orn rfl rfl rfl (by omega) (by omega)) (rfl)) (Wd.u rfl) rfl rfl ?_
  refine LR.v (Y.assign rfl rfl) (Wd.u rfl) rfl rfl ?_
  refine LR.nil ?_
  refine hK2 _ _ ?_
  refine CW.seq (fun K3 hK3 hE3 => ?_)
  refine CW.seq (fun K4 hK4 hE4 => ?_)
  refine CW.region_any (fun Hq => Nw H3 Hq) [] rfl ?_
  have hqs := Nw.refl H3
  refine LH.take 0 (by kernel_rfl) rfl (by kernel_rfl) (by kernel_rfl) (by kernel_rfl) (fun Hq hq => Y.loadN (vi.pt.nw hq) rfl Try.isAgg30 Try.sizeOf30 (fA_len _) rfl) (Wd.u rfl) rfl rfl hqs ?_
  refine LH.take 1 (by kernel_rfl) rfl (by kernel_rfl) (by kernel_rfl) (by kernel_rfl) (fun Hq hq => Y.move rfl rfl) (Wd.u rfl) rfl rfl hqs ?_
  refine LH.one (i := 2) (by kernel_rfl) ?_
  -- call selvage/selvagelaw11.number
  refine LO.call rfl rfl Try.call26 rfl (Wd.u rfl) rfl rfl (nbn_ct (nbi i) w0 _ (by omega)) (fun v22 H22 r22 => ?_)
  obtain ⟨rfl, hs22⟩ := r22
  replace hv := hv.nw hs22
  replace vi := vi.nw hs22
  replace hm0 := hm0.tr hs22
  have hz2 := hs22.size
  have hq22 := hqs.tr hs22
  refine ⟨.inr hq22, LH.narrow (SH2 := fun Hq => Nw H22 Hq) (fun Hq hq => hq22.tr hq) ?_⟩
  have hqn22 := Nw.refl H22
  refine LH.take 3 (by kernel_rfl) rfl (by kernel_rfl) (by kernel_rfl) (by kernel_rfl) (fun Hq hq => Y.aneq rfl Try.eqGuardType30 (fun w => run_equalIn_id 9998 Try.underlying30 Try.underlying5 Try.sizeOf5 Try.isAgg5 (i.2) ((nbn (nbi i)).2) w) rfl rfl) (Wd.u rfl) rfl rfl hqn22 ?_
  refine LH.take 4 (by kernel_rfl) rfl (by kernel_rfl) (by kernel_rfl) (by kernel_rfl) (fun Hq hq => Y.move rfl rfl) (Wd.u rfl) rfl rfl hqn22 ?_
  refine LH.splitp (d := 24) rfl (fun g24 => ?_) (fun g24 => ?_)
  ·
    refine LH.gs 5 (by kernel_rfl) rfl (by kernel_rfl) (by kernel_rfl) (by kernel_rfl) rfl rfl rfl rfl rfl rfl hqn22 ?_
    refine LH.gs 6 (by kernel_rfl) rfl (by kernel_rfl) (by kernel_rfl) (by kernel_rfl) rfl rfl rfl rfl rfl rfl hqn22 ?_
    refine LH.gs 7 (by kernel_rfl) rfl (by kernel_rfl) (by kernel_rfl) (by kernel_rfl) rfl rfl rfl rfl rfl rfl hqn22 ?_
    refine LH.gs 8 (by kernel_rfl) rfl (by kernel_rfl) (by kernel_rfl) (by kernel_rfl) rfl rfl rfl rfl rfl rfl hqn22 ?_
    refine LH.gs 9 (by kernel_rfl) rfl (by kernel_rfl) (by kernel_rfl) (by kernel_rfl) rfl rfl rfl rfl rfl rfl hqn22 ?_
    refine LH.gs 10 (by kernel_rfl) rfl (by kernel_rfl) (by kernel_rfl) (by kernel_rfl) rfl rfl rfl rfl rfl rfl hqn22 ?_
    refine LH.take 11 (by kernel_rfl) rfl (by kernel_rfl) (by kernel_rfl) (by kernel_rfl) (fun Hq hq => Y.pick_t rfl rfl rfl) (Wd.u rfl) rfl rfl hqn22 ?_
    refine LH.done (by kernel_rfl) ?_
    have hqe := hqn22
    refine hK4 _ _ ?_
    refine CW.cond_t rfl ?_
    refine CW.seq (fun K5 hK5 hE5 => ?_)
    refine CW.region ?_
    refine LR.v (Y.mki rfl Try.runUnderlying76 (by intro ms h; cases h) rfl) (Wd.u rfl) rfl rfl ?_
    refine LR.v (Y.assign rfl rfl) (Wd.u rfl) rfl rfl ?_
    refine LR.v (Y.assign rfl rfl) (Wd.u rfl) rfl rfl ?_
    refine LR.nil ?_
    refine hK5 _ _ ?_
    refine CW.ret (hE3 .ret nofun _ _ (hret .ret (.inr rfl) _ _ _ (res2 rfl rfl rfl) ?_))
    exact ⟨⟨none, 0, 0⟩, [], 2, rfl, .inr ⟨rfl, if_pos (.inl (fun e => g24 (congrArg Subtype.val e.symm))), rfl⟩, Rd.nil _ _ _ _, hm0⟩
  ·
    refine LH.take 5 (by kernel_rfl) rfl (by kernel_rfl) (by kernel_rfl) (by kernel_rfl) (fun Hq hq => Y.move rfl rfl) (Wd.g rfl rfl rfl) rfl rfl hqn22 ?_
    refine LH.take 6 (by kernel_rfl) rfl (by kernel_rfl) (by kernel_rfl) (by kernel_rfl) (fun Hq hq => Y.move rfl rfl) (Wd.g rfl rfl rfl) rfl rfl hqn22 ?_
    refine LH.take 7 (by kernel_rfl) rfl (by kernel_rfl) (by kernel_rfl) (by kernel_rfl) (fun Hq hq => Y.nilCheck rfl rfl) (Wd.g rfl rfl rfl) rfl rfl hqn22 ?_
    refine LH.take 8 (by kernel_rfl) rfl (by kernel_rfl) (by kernel_rfl) (by kernel_rfl) (fun Hq hq => Y.fieldAddr (hv.pt.nw hq) rfl Try.runUnderlying63 rfl rfl Try.sizeOf3 (by decide) rfl) (Wd.g rfl rfl rfl) rfl rfl hqn22 ?_
    refine LH.take 9 (by kernel_rfl) rfl (by kernel_rfl) (by kernel_rfl) (by kernel_rfl) (fun Hq hq => Y.load1 (hv.pt.nw hq) rfl Try.isAgg3 rfl) (Wd.g rfl rfl rfl) rfl rfl hqn22 ?_
    refine LH.take 10 (by kernel_rfl) rfl (by kernel_rfl) (by kernel_rfl) (by kernel_rfl) (fun Hq hq => Y.geq rfl rfl rfl) (Wd.g rfl rfl rfl) rfl rfl hqn22 ?_
    refine LH.take 11 (by kernel_rfl) rfl (by kernel_rfl) (by kernel_rfl) (by kernel_rfl) (fun Hq hq => Y.pick_f rfl rfl rfl) (Wd.u rfl) rfl rfl hqn22 ?_
    refine LH.done (by kernel_rfl) ?_
    have hqe := hqn22
    refine hK4 _ _ ?_
    refine CW.condp rfl (fun c31 => ?_) (fun c31 => ?_)
    ·
      refine CW.seq (fun K6 hK6 hE6 => ?_)
      refine CW.region ?_
      refine LR.v (Y.mki rfl Try.runUnderlying76 (by intro ms h; cases h) rfl) (Wd.u rfl) rfl rfl ?_
      refine LR.v (Y.assign rfl rfl) (Wd.u rfl) rfl rfl ?_
      refine LR.v (Y.assign rfl rfl) (Wd.u rfl) rfl rfl ?_
      refine LR.nil ?_
      refine hK6 _ _ ?_
      refine CW.ret (hE3 .ret nofun _ _ (hret .ret (.inr rfl) _ _ _ (res2 rfl rfl rfl) ?_))
      exact ⟨⟨none, 0, 0⟩, [], 2, rfl, .inr ⟨rfl, if_pos (.inr (by omega)), rfl⟩, Rd.nil _ _ _ _, hm0⟩
    ·
      refine CW.skip ?_
      refine hK3 _ _ ?_
      refine CW.seq (fun K7 hK7 hE7 => ?_)
      refine CW.seq (fun K8 hK8 hE8 => ?_)
      refine CW.region ?_
      refine LR.v (Y.move rfl rfl) (Wd.u rfl) rfl rfl ?_
      refine LR.v (Y.nilCheck rfl rfl) (Wd.u rfl) rfl rfl ?_
      refine LR.v (Y.fieldAddr hv.pt rfl Try.runUnderlying63 rfl rfl Try.sizeOf4 (by decide) rfl) (Wd.u rfl) rfl rfl ?_
      refine LR.v (Y.load1 (hv.pt.drop 1) rfl Try.isAgg4 rfl) (Wd.u rfl) rfl rfl ?_
      refine LR.nil ?_
      refine hK8 _ _ ?_
      refine CW.cond rfl (fun c36 => ?_) (fun c36 => ?_)
      ·
        refine CW.seq (fun K9 hK9 hE9 => ?_)
        refine CW.seq (fun K10 hK10 hE10 => ?_)
        refine CW.region ?_
        refine LR.v (Y.move rfl rfl) (Wd.u rfl) rfl rfl ?_
        refine LR.v (Y.lss rfl rfl rfl) (Wd.u rfl) rfl rfl ?_
        refine LR.nil ?_
        refine hK10 _ _ ?_
        refine CW.condp rfl (fun c38 => ?_) (fun c38 => ?_)
        ·
          refine CW.seq (fun K11 hK11 hE11 => ?_)
          refine CW.region ?_
          refine LR.v (Y.assign rfl rfl) (Wd.u rfl) rfl rfl ?_
          refine LR.v (Y.assign rfl rfl) (Wd.u rfl) rfl rfl ?_
          refine LR.nil ?_
          refine hK11 _ _ ?_
          refine CW.ret (hE9 .ret nofun _ _ (hE7 .ret nofun _ _ (hret .ret (.inr rfl) _ _ _ (res2 rfl rfl rfl) ?_)))
          have hnb : ¬ (nbn (nbi i) ≠ i ∨ N ≤ nbi i) := fun h => by
            rcases h with h | h
            · exact h (Subtype.ext (Decidable.not_not.1 g24)).symm
            · omega
          exact ⟨⟨none, 0, 0⟩, [], 0, rfl, .inl ⟨rfl, by unfold paN; rw [if_neg hnb, if_pos c36, if_pos (by omega)]⟩, Rd.nil _ _ _ _, hm0⟩
        ·
          refine CW.skip ?_
          refine hK9 _ _ ?_
          refine CW.seq (fun K12 hK12 hE12 => ?_)
          refine CW.region ?_
          refine LR.v (Y.move rfl rfl) (Wd.u rfl) rfl rfl ?_
          refine LR.v (Y.cast (v2 := .int .i64 ((nbi i / 2 : Nat) : Int)) (Y.quoi rfl rfl rfl (by omega)) (ivv (by omega))) (Wd.u rfl) rfl rfl ?_
          refine LR.v (Y.muli rfl rfl rfl (by omega)) (Wd.u rfl) rfl rfl ?_
          refine LR.v (Y.cast (v2 := .int .i64 ((nbi i / 2 * 2 - 2 : Nat) : Int)) (Y.subi rfl rfl rfl (by omega)) (ivv (by omega))) (Wd.u rfl) rfl rfl ?_
          -- call selvage/selvagelaw11.number
          refine LR.call rfl Try.call26 rfl (Wd.u rfl) rfl rfl (nbn_ct _ w0 _ (by omega)) (fun v43 H43 r43 => ?_)
          obtain ⟨rfl, hs43⟩ := r43
          replace hv := hv.nw hs43
          replace hm0 := hm0.tr hs43
          have hz3 := hs43.size
          refine LR.v (Y.move rfl rfl) (Wd.u rfl) rfl rfl ?_
          refine LR.v (Y.cast (v2 := .int .i64 ((nbi i / 2 : Nat) : Int)) (Y.quoi rfl rfl rfl (by omega)) (ivv (by omega))) (Wd.u rfl) rfl rfl ?_
          refine LR.v (Y.muli rfl rfl rfl (by omega)) (Wd.u rfl) rfl rfl ?_
          refine LR.v (Y.cast (v2 := .int .i64 ((nbi i / 2 * 2 - 1 : Nat) : Int)) (Y.subi rfl rfl rfl (by omega)) (ivv (by omega))) (Wd.u rfl) rfl rfl ?_
          -- call selvage/selvagelaw11.number
          refine LR.call rfl Try.call26 rfl (Wd.u rfl) rfl rfl (nbn_ct _ w0 _ (by omega)) (fun v48 H48 r48 => ?_)
          obtain ⟨rfl, hs48⟩ := r48
          replace hv := hv.nw hs48
          replace hm0 := hm0.tr hs48
          have hz4 := hs48.size
          refine LR.z (Z.litw _ ([nbn (nbi i / 2 * 2 - 2), nbn (nbi i / 2 * 2 - 1)]) rfl inf28 rfl rfl rfl (by decide) (by decide) fA_len fA_one (rfl)) (Wd.u rfl) rfl rfl (fun v49 H49 r49 => ?_)
          obtain ⟨ow49, hs49, ob49, hH49⟩ := r49
          have hzs49 : H49.size = H48.size + 1 := by rw [hH49]; simp
          have dj3 : Dj (sb + 1) (H48.size + 1) := Dj.new hv.lt
          have nx4 : Nx 0 H0.size (H48.size + 1) := Nx.new hm0.size
          replace hv := hv.nw hs49
          replace hm0 := hm0.tr hs49
          have hz5 := hs49.size
          refine LR.v (Y.assign rfl rfl) (Wd.u rfl) rfl rfl ?_
          refine LR.v (Y.assign rfl rfl) (Wd.u rfl) rfl rfl ?_
          refine LR.nil ?_
          refine hK12 _ _ ?_
          refine CW.ret (hE7 .ret nofun _ _ (hret .ret (.inr rfl) _ _ _ (res2 rfl rfl rfl) ?_))
          have hnb : ¬ (nbn (nbi i) ≠ i ∨ N ≤ nbi i) := fun h => by
            rcases h with h | h
            · exact h (Subtype.ext (Decidable.not_not.1 g24)).symm
            · omega
          exact ⟨toSV v49, _, 0, by rw [ow49.sv]; rfl, .inl ⟨rfl, by unfold paN; rw [if_neg hnb, if_pos c36, if_neg (by omega)]⟩, by rw [ow49.sv]; exact ow49.fre (nx4), hm0⟩
      ·
        refine CW.skip ?_
        refine hK7 _ _ ?_
        refine CW.seq (fun K13 hK13 hE13 => ?_)
        refine CW.seq (fun K14 hK14 hE14 => ?_)
        refine CW.region ?_
        refine LR.v (Y.move rfl rfl) (Wd.u rfl) rfl rfl ?_
        refine LR.v (Y.eql rfl rfl rfl) (Wd.u rfl) rfl rfl ?_
        refine LR.nil ?_
        refine hK14 _ _ ?_
        refine CW.condp rfl (fun c51 => ?_) (fun c51 => ?_)
        ·
          refine CW.seq (fun K15 hK15 hE15 => ?_)
          refine CW.region ?_
          refine LR.v (Y.assign rfl rfl) (Wd.u rfl) rfl rfl ?_
          refine LR.v (Y.assign rfl rfl) (Wd.u rfl) rfl rfl ?_
          refine LR.nil ?_
          refine hK15 _ _ ?_
          refine CW.ret (hE13 .ret nofun _ _ (hret .ret (.inr rfl) _ _ _ (res2 rfl rfl rfl) ?_))
          have hnb : ¬ (nbn (nbi i) ≠ i ∨ N ≤ nbi i) := fun h => by
            rcases h with h | h
            · exact h (Subtype.ext (Decidable.not_not.1 g24)).symm
            · omega
          exact ⟨⟨none, 0, 0⟩, [], 0, rfl, .inl ⟨rfl, by unfold paN; rw [if_neg hnb, if_neg (by simpa using c36), if_pos (by omega)]⟩, Rd.nil _ _ _ _, hm0⟩
        ·
          refine CW.skip ?_
          refine hK13 _ _ ?_
          refine CW.seq (fun K16 hK16 hE16 => ?_)
          refine CW.region ?_
          refine LR.v (Y.move rfl rfl) (Wd.u rfl) rfl rfl ?_
          refine LR.v (Y.cast (v2 := .int .i64 ((nbi i - 1 : Nat) : Int)) (Y.subi rfl rfl rfl (by omega)) (ivv (by omega))) (Wd.u rfl) rfl rfl ?_
          -- call selvage/selvagelaw11.number
          refine LR.call rfl Try.call26 rfl (Wd.u rfl) rfl rfl (nbn_ct _ w0 _ (by omega)) (fun v54 H54 r54 => ?_)
          obtain ⟨rfl, hs54⟩ := r54
          replace hv := hv.nw hs54
          replace hm0 := hm0.tr hs54
          have hz6 := hs54.size
          refine LR.z (Z.litw _ ([nbn (nbi i - 1)]) rfl inf28 rfl rfl rfl (by decide) (by decide) fA_len fA_one (rfl)) (Wd.u rfl) rfl rfl (fun v55 H55 r55 => ?_)
          obtain ⟨ow55, hs55, ob55, hH55⟩ := r55
          have hzs55 : H55.size = H54.size + 1 := by rw [hH55]; simp
          have dj5 : Dj (sb + 1) (H54.size + 1) := Dj.new hv.lt
          have nx6 : Nx 0 H0.size (H54.size + 1) := Nx.new hm0.size
          replace hv := hv.nw hs55
          replace hm0 := hm0.tr hs55
          have hz7 := hs55.size
          refine LR.v (Y.assign rfl rfl) (Wd.u rfl) rfl rfl ?_
          refine LR.v (Y.assign rfl rfl) (Wd.u rfl) rfl rfl ?_
          refine LR.nil ?_
          refine hK16 _ _ ?_
          refine CW.ret (hret .ret (.inr rfl) _ _ _ (res2 rfl rfl rfl) ?_)
          have hnb : ¬ (nbn (nbi i) ≠ i ∨ N ≤ nbi i) := fun h => by
            rcases h with h | h
            · exact h (Subtype.ext (Decidable.not_not.1 g24)).symm
            · omega
          exact ⟨toSV v55, _, 0, by rw [ow55.sv]; rfl, .inl ⟨rfl, by unfold paN; rw [if_neg hnb, if_neg (by simpa using c36), if_neg (by omega)]⟩, by rw [ow55.sv]; exact ow55.fre (nx6), hm0⟩

end Go.Proofs.Ytepdhokpfecdnaa.GraB
/-
  All commits that stand above some.
-/
namespace Go.Proofs.Ytepdhokpfecdnaa.GraC
open Go.Proofs.Ytepdhokpfecdnaa.E Go.RowKit Go.Proofs.Ytepdhokpfecdnaa.GraA Go.Proofs.Ytepdhokpfecdnaa.GraB
set_option maxRecDepth 20000
set_option linter.unusedVariables false
set_option linter.unusedSimpArgs false
set_option linter.unusedSectionVars false
set_option maxRecDepth 100000 in
theorem inf28 : Inf Try.prog 28 30 32 32 := ⟨Try.underlying28, _, _, rfl, rfl, rfl, rfl, rfl⟩

/-- what tells the parents -/
inductive Sou where
  | rows (v : SV) (l : List Rw)
  | row (N : Nat) (lad : Bool)
def Sou.e : Sou → TypeId | .rows _ _ => 27 | .row _ _ => 63
def Sou.t : Sou → TypeId | .rows _ _ => 25 | .row _ _ => 61
def Sou.f : Sou → FuncId | .rows _ _ => 87 | .row _ _ => 88
def Sou.cs : Sou → Nat → List Value | .rows v _, n => [v.v, .int .i64 (n : Int)] | .row N lad, _ => [.int .i64 (N : Int), .bool lad]
def Sou.pa : Sou → Ide → Option (List Ide) | .rows _ l, i => paL (l.map (·.l)) i | .row N lad, i => paN N lad i
def Sou.ok : Sou → Prop | .rows _ l => l.length ≤ 1000 ∧ ∀ x ∈ l, x.l.length ≤ 1000 ∧ ∀ k ∈ x.l, k ≤ 100000 | .row N _ => N ≤ 1000000
abbrev Sou.v (S : Sou) (sb : Nat) : Value := .iface S.t (.pointer (some ⟨sb, 0, none⟩))
/-- the rows of a source -/
structure SRd (F : Nat → Prop) (H : Heap) (S : Sou) : Prop where
  l : ∀ v l, S = .rows v l → Rd F H fRw 1 v.v l
  x : ∀ v l, S = .rows v l → ∀ x ∈ l, Rd F H fN 1 x.v.v x.l
section
variable {F : Nat → Prop} {H H' : Heap} {S : Sou} {ks : List Nat}
theorem SRd.nw (h : SRd F H S) (s : Nw H H') : SRd F H' S := ⟨fun v l e => (h.l v l e).nw s, fun v l e x hx => (h.x v l e x hx).nw s⟩
theorem SRd.upL (h : SRd F H S) (s : Mo (Ms ks) H H') (d : DFL F ks) : SRd F H' S := ⟨fun v l e => (h.l v l e).upL s d, fun v l e x hx => (h.x v l e x hx).upL s d⟩
theorem SRd.bnd (h : SRd F H S) : SRd (fun b => F b ∧ b < H.size) H S := ⟨fun v l e => (h.l v l e).bnd, fun v l e x hx => (h.x v l e x hx).bnd⟩
theorem SRd.bf {G : Nat → Prop} {h : Nat} {H : Heap} {S : Sou} (x : SRd (fun b => G b ∧ b < h) H S) : BF (fun b => G b ∧ b < h) h := fun b e => e.2
theorem SRd.any (h : SRd F H S) : SRd (fun _ => True) H S := ⟨fun v l e => (h.l v l e).any, fun v l e x hx => (h.x v l e x hx).any⟩
end
theorem mth (S : Sou) (sb : Nat) : Mth Try.prog S.t (.pointer (some ⟨sb, 0, none⟩)) "Parents" S.f := by
  cases S with
  | rows v l => exact ⟨fun w => by kernel_rfl, enters_of Try.func87 (by kernel_rfl) rfl⟩
  | row N lad => exact ⟨fun w => by kernel_rfl, enters_of Try.func88 (by kernel_rfl) rfl⟩
theorem par_ct (S : Sou) (sb n : Nat) (i : Ide) (F : Nat → Prop) (w0 : World) (H0 : Heap) (hv : Var S.e H0 sb (S.cs n)) (hr : SRd F H0 S) (bf : BF F H0.size) (df : DF F (sb + 1)) (hok : S.ok) (hn : n ≤ 1000000000) :
    Ct Try.prog w0 S.f #[.pointer (some ⟨sb, 0, none⟩), vA i] H0 (fun r H2 => ∃ s : SV, ∃ ps : List Ide, ∃ e : Nat, r = .tuple #[s.v, eV e] ∧ ((e = 0 ∧ S.pa i = some ps) ∨ (e = 2 ∧ S.pa i = none ∧ ps = [])) ∧ (Rd (fun b => H0.size ≤ b) H2 fA 32 s.v ps) ∧ (Var S.e H2 sb (S.cs (n + 1))) ∧ Mo (Ms [sb + 1]) H0 H2) := by
  cases S with
  | rows v l => exact srcp_ct sb v l n i F w0 H0 hv (hr.l v l rfl) (hr.x v l rfl) bf bf df df hok.1 hok.2 hn
  | row N lad =>
    refine (rowp_ct sb N lad i w0 H0 hv hok).mono ?_
    rintro r H2 ⟨s, ps, e, h1, h2, h3, h4⟩
    exact ⟨s, ps, e, h1, h2, h3, hv.nw h4, h4.mdn _⟩
theorem paN_le {N : Nat} {lad : Bool} {i : Ide} {ps : List Ide} (h : paN N lad i = some ps) : ps.length ≤ 2 := by
  unfold paN at h
  (repeat' split at h) <;> first | (cases h; done) | (simp only [Option.some.injEq] at h; subst h; simp)
theorem paL_le {g : List (List Nat)} {i : Ide} {ps : List Ide} {d : Nat} (hd : ∀ x ∈ g, x.length ≤ d) (h : paL g i = some ps) : ps.length ≤ d := by
  unfold paL at h
  rw [Option.map_eq_some_iff] at h
  obtain ⟨n, _, rfl⟩ := h
  rw [List.length_map]
  by_cases hn : n < g.length
  · rw [List.getD_eq_getElem?_getD, List.getElem?_eq_getElem hn]; exact hd _ (List.getElem_mem hn)
  · rw [List.getD_eq_getElem?_getD, List.getElem?_eq_none (by omega)]; simp
theorem Sou.pa_le {S : Sou} {i : Ide} {ps : List Ide} (hok : S.ok) (h : S.pa i = some ps) : ps.length ≤ 1000 := by
  cases S with
  | rows v l =>
    refine paL_le (fun x hx => ?_) h
    obtain ⟨y, hy, rfl⟩ := List.mem_map.1 hx
    exact (hok.2 y hy).1
  | row N lad => have := paN_le h; omega
abbrev nilS : Value := .slice none 0 0
/-- commits: the parents of each -/
structure Cm (F : Nat → Prop) (H : Heap) (v : Value) (m : List (Ide × Value)) (pa : Ide → List Ide) : Prop where
  mo : MapOf F H vA id v m
  row : ∀ k, Rd F H fA 32 ((mget m k).getD nilS) (pa k)
section
variable {F : Nat → Prop} {H H' : Heap} {v : Value} {m : List (Ide × Value)} {pa : Ide → List Ide} {ks : List Nat}
theorem Cm.nw (h : Cm F H v m pa) (s : Nw H H') : Cm F H' v m pa := ⟨h.mo.nw s, fun k => (h.row k).nw s⟩
theorem Cm.upL (h : Cm F H v m pa) (s : Mo (Ms ks) H H') (d : DFL F ks) : Cm F H' v m pa := ⟨h.mo.up s (fun b _ h1 h2 => d (b + 1) h2 b h1 rfl), fun k => (h.row k).upL s d⟩
theorem Cm.upA {k : Nat} (h : Cm F H v m pa) (s : Mo (fun c => k ≤ c) H H') (d : BF F k) : Cm F H' v m pa := ⟨h.mo.up s (fun b _ h1 h2 => by have := d b h1; omega), fun q => (h.row q).upA s d⟩
theorem Cm.bnd (h : Cm F H v m pa) : Cm (fun b => F b ∧ b < H.size) H v m pa := ⟨h.mo.imp (fun b h1 h2 => ⟨h2, h1⟩), fun k => (h.row k).bnd⟩
theorem Cm.imp {G : Nat → Prop} (h : Cm F H v m pa) (hG : ∀ b, F b → G b) : Cm G H v m pa := ⟨h.mo.imp (fun b _ h2 => hG b h2), fun k => (h.row k).imp (fun b _ h2 => hG b h2)⟩
structure CmE (F : Nat → Prop) (H : Heap) (e : Nat) (v : Value) (m : List (Ide × Value)) (pa : Ide → List Ide) : Prop where
  get : e = 0 → Cm F H v m pa
theorem CmE.nw {e : Nat} (h : CmE F H e v m pa) (s : Nw H H') : CmE F H' e v m pa := ⟨fun q => (h.get q).nw s⟩
theorem CmE.upL {e : Nat} (h : CmE F H e v m pa) (s : Mo (Ms ks) H H') (d : DFL F ks) : CmE F H' e v m pa := ⟨fun q => (h.get q).upL s d⟩
theorem CmE.bnd {e : Nat} (h : CmE F H e v m pa) : CmE (fun b => F b ∧ b < H.size) H e v m pa := ⟨fun q => (h.get q).bnd⟩
theorem CmE.bf {G : Nat → Prop} {h : Nat} {e : Nat} (x : CmE (fun b => G b ∧ b < h) H e v m pa) : BF (fun b => G b ∧ b < h) h := fun b e => e.2
end
/-- what stands above -/
inductive UpO (pa : Ide → Option (List Ide)) (i : Ide) : Ide → Prop
  | refl : UpO pa i i
  | step {j p : Ide} {ps : List Ide} : UpO pa i j → pa j = some ps → p ∈ ps → UpO pa i p
def cpa (pa : Ide → Option (List Ide)) (K : List Ide) (k : Ide) : List Ide := if k ∈ K then (pa k).getD [] else []
structure AInv (pa : Ide → Option (List Ide)) (st K row : List Ide) : Prop where
  nd : K.Nodup
  told : ∀ k ∈ K, ∃ ps, pa k = some ps ∧ ∀ p ∈ ps, p ∈ K ∨ p ∈ row
  sta : ∀ k ∈ st, k ∈ K ∨ k ∈ row
  up : ∀ k, k ∈ K ∨ k ∈ row → ∃ i ∈ st, UpO pa i k
  le : K.length ≤ 5000
/-- what comes of it -/
def AllR (pa : Ide → Option (List Ide)) (st K : List Ide) (e : Nat) : Prop :=
  (e = 0 ∧ K.Nodup ∧ (∀ k ∈ K, ∃ ps, pa k = some ps ∧ ∀ p ∈ ps, p ∈ K) ∧ (∀ k ∈ st, k ∈ K) ∧ (∀ k ∈ K, ∃ i ∈ st, UpO pa i k) ∧ K.length ≤ 5000) ∨
  (e = 2 ∧ ∃ k, (∃ i ∈ st, UpO pa i k) ∧ pa k = none) ∨
  (e = 4 ∧ ∃ K2 : List Ide, K2.Nodup ∧ K2.length = 5000 ∧ (∀ k ∈ K2, (∃ i ∈ st, UpO pa i k) ∧ (pa k).isSome = true) ∧ ∃ k, k ∉ K2 ∧ ∃ i ∈ st, UpO pa i k)
section
variable {pa : Ide → Option (List Ide)} {st K r0 : List Ide} {x : Ide}
theorem AInv.start (st : List Ide) : AInv pa st [] st := ⟨List.nodup_nil, by simp, fun k h => .inr h, fun k h => by rcases h with h | h; cases h; exact ⟨k, h, .refl⟩, by simp⟩
theorem AInv.skip (h : AInv pa st K (r0 ++ [x])) (hx : x ∈ K) : AInv pa st K r0 := by
  refine ⟨h.nd, fun k hk => ?_, fun k hk => ?_, fun k hk => h.up k (hk.imp id (fun q => List.mem_append_left _ q)), h.le⟩
  · obtain ⟨ps, h1, h2⟩ := h.told k hk
    refine ⟨ps, h1, fun p hp => ?_⟩
    rcases h2 p hp with h3 | h3
    · exact .inl h3
    · rcases List.mem_append.1 h3 with h3 | h3
      · exact .inr h3
      · simp only [List.mem_singleton] at h3; subst h3; exact .inl hx
  · rcases h.sta k hk with h3 | h3
    · exact .inl h3
    · rcases List.mem_append.1 h3 with h3 | h3
      · exact .inr h3
      · simp only [List.mem_singleton] at h3; subst h3; exact .inl hx
theorem AInv.upx (h : AInv pa st K (r0 ++ [x])) : ∃ i ∈ st, UpO pa i x := h.up x (.inr (by simp))
theorem AInv.next {ps : List Ide} (h : AInv pa st K (r0 ++ [x])) (hx : x ∉ K) (hp : pa x = some ps) (hl : K.length ≠ 5000) : AInv pa st (K ++ [x]) (r0 ++ ps) := by
  have mv : ∀ k, k ∈ K ∨ k ∈ r0 ++ [x] → k ∈ K ++ [x] ∨ k ∈ r0 ++ ps := by
    intro k hk
    rcases hk with hk | hk
    · exact .inl (List.mem_append_left _ hk)
    · rcases List.mem_append.1 hk with hk | hk
      · exact .inr (List.mem_append_left _ hk)
      · exact .inl (List.mem_append_right _ hk)
  refine ⟨?_, fun k hk => ?_, fun k hk => mv k (h.sta k hk), fun k hk => ?_, ?_⟩
  · rw [List.nodup_append]
    exact ⟨h.nd, by simp, fun a ha b hb e => by simp only [List.mem_singleton] at hb; subst hb; subst e; exact hx ha⟩
  · rcases List.mem_append.1 hk with hk | hk
    · obtain ⟨qs, h1, h2⟩ := h.told k hk
      exact ⟨qs, h1, fun p hp => mv p (h2 p hp)⟩
    · simp only [List.mem_singleton] at hk; subst hk
      exact ⟨ps, hp, fun p hp => .inr (List.mem_append_right _ hp)⟩
  · rcases hk with hk | hk
    · rcases List.mem_append.1 hk with hk | hk
      · exact h.up k (.inl hk)
      · simp only [List.mem_singleton] at hk; subst hk; exact h.upx
    · rcases List.mem_append.1 hk with hk | hk
      · exact h.up k (.inr (List.mem_append_left _ hk))
      · obtain ⟨i, hi, hu⟩ := h.upx
        exact ⟨i, hi, hu.step hp hk⟩
  · have := h.le
    rw [List.length_append, List.length_singleton]; omega
theorem AInv.done (h : AInv pa st K []) : AllR pa st K 0 :=
  .inl ⟨rfl, h.nd, fun k hk => by obtain ⟨ps, h1, h2⟩ := h.told k hk; exact ⟨ps, h1, fun p hp => (h2 p hp).resolve_right (by simp)⟩, fun k hk => (h.sta k hk).resolve_right (by simp), fun k hk => h.up k (.inl hk), h.le⟩
theorem AInv.none (h : AInv pa st K (r0 ++ [x])) (hp : pa x = none) : AllR pa st K 2 := .inr (.inl ⟨rfl, x, h.upx, hp⟩)
theorem AInv.many (h : AInv pa st K (r0 ++ [x])) (hx : x ∉ K) (hl : K.length = 5000) : AllR pa st K 4 :=
  .inr (.inr ⟨rfl, K, h.nd, hl, fun k hk => ⟨h.up k (.inl hk), by obtain ⟨ps, h1, _⟩ := h.told k hk; rw [h1]; rfl⟩, x, hx, h.upx⟩)
end
theorem snoc_of {α : Type} {l : List α} (h : 0 < l.length) : ∃ r x, l = r ++ [x] := ⟨l.dropLast, l.getLast (by intro e; subst e; simp at h), (List.dropLast_concat_getLast _).symm⟩
theorem mput_new {κ β : Type} [DecidableEq κ] {m : List (κ × β)} {k : κ} {z : β} (h : (mget m k).isSome = false) : mput m k z = m ++ [(k, z)] := by unfold mput; rw [h]; rfl
theorem DF.or1 {G : Nat → Prop} {kB k : Nat} (h : DF G k) (hB : Dj k kB) : DF (fun b => G b ∨ b + 1 = kB) k := by
  intro b e
  rcases e with e | e
  · exact h b e
  · intro e2; exact hB b e2 e
theorem BF.or1 {G : Nat → Prop} {kB h : Nat} (x : BF G h) (hB : kB ≤ h) : BF (fun b => G b ∨ b + 1 = kB) h := by
  intro b e
  rcases e with e | e
  · exact x b e
  · omega
theorem cm_next {G : Nat → Prop} {H : Heap} {m : List (Ide × Value)} {pa : Ide → Option (List Ide)} {x : Ide} {ps : List Ide} {u : Value} {k63 : Nat} (hgs : (mget m x).isSome = false) (hx : x ∉ m.map (·.1)) (hp : pa x = some ps) (h : ∀ k, Rd G H fA 32 ((mget m k).getD nilS) (cpa pa (m.map (·.1)) k)) (hu : Rd (fun b => b + 1 = k63) H fA 32 u ps) :
    ∀ k, Rd (fun b => G b ∨ b + 1 = k63) H fA 32 ((mget (m ++ [(x, u)]) k).getD nilS) (cpa pa ((m ++ [(x, u)]).map (·.1)) k) := by
  intro k
  rw [← mput_new hgs, mget_put, mput_new hgs]
  by_cases hk : k = x
  · subst hk
    have e : cpa pa ((m ++ [(k, u)]).map (·.1)) k = ps := by unfold cpa; rw [if_pos (by simp), hp]; rfl
    rw [if_pos rfl, e]
    exact hu.imp (fun b _ e => .inr e)
  · have e : cpa pa ((m ++ [(x, u)]).map (·.1)) k = cpa pa (m.map (·.1)) k := by
      unfold cpa
      have : k ∈ (m ++ [(x, u)]).map (·.1) ↔ k ∈ m.map (·.1) := by simp [hk]
      by_cases hk2 : k ∈ m.map (·.1)
      · rw [if_pos hk2, if_pos (this.2 hk2)]
      · rw [if_neg hk2, if_neg (fun h => hk2 (this.1 h))]
    rw [if_neg hk, e]
    exact (h k).imp (fun b _ e => .inl e)
abbrev fLs (x : SV × List Ide) : List Value := [x.1.v]
theorem fLs_len (x : SV × List Ide) : (fLs x).length = 1 := rfl
theorem fLs_one (x : SV × List Ide) : ∀ u ∈ fLs x, u.oneCell' = true := by intro u hu; simp only [List.mem_singleton] at hu; subst hu; rfl
theorem flat_take {α β : Type} (f : α → List β) (l : List α) (j : Nat) : ((l.take j).flatMap f).length ≤ (l.flatMap f).length := by
  conv => rhs; rw [← List.take_append_drop j l, List.flatMap_append, List.length_append]
  omega
theorem flat_snoc {α β : Type} (f : α → List β) (l : List α) (j : Nat) (h : j < l.length) : (l.take (j + 1)).flatMap f = (l.take j).flatMap f ++ f l[j] := by
  rw [List.take_succ_eq_append_getElem h, List.flatMap_append]; simp

set_option maxHeartbeats 4000000 in
theorem all_ct (So : Sou) (sb n : Nat) (F : Nat → Prop) (vl : Value) (ls : List (SV × List Ide)) (w0 : World) (H0 : Heap)
    (hv : Var So.e H0 sb (So.cs n)) (hsr : SRd F H0 So) (bf_hsr : BF F H0.size) (dfs : DF F (sb + 1)) (hok : So.ok) (hn : n ≤ 900000000) (hl : Rd (fun b => b ≠ sb) H0 fLs 1 vl ls) (hlsl : ls.length ≤ 1000) (hlx : ∀ x ∈ ls, Rd (fun b => b ≠ sb) H0 fA 32 x.1.v x.2) (hst : (ls.flatMap (·.2)).length ≤ 1000000) :
    Ct Try.prog w0 27 #[So.v sb, vl] H0 (fun r H2 => ∃ vc : Value, ∃ m : List (Ide × Value), ∃ e : Nat, ∃ q : Nat, r = .tuple #[vc, eV e] ∧ (CmE (fun b => H0.size ≤ b) H2 e vc m (cpa So.pa (m.map (·.1)))) ∧ (Var So.e H2 sb (So.cs q)) ∧ (AllR So.pa (ls.flatMap (·.2)) (m.map (·.1)) e) ∧ ((e = 0 → q = n + m.length) ∧ q ≤ n + 5001) ∧ Mo (Ms [(sb + 1)]) H0 H2) := by
  refine Ct.enter (args := [So.v sb, vl]) Try.func27 rfl rfl rfl ?_
  intro Q0 hret
  have hm0 : Mo (Ms [(sb + 1)]) H0 H0 := Mo.refl _ _
  have nx_hm0_hv := Nx.refl (sb + 1) H0.size
  have hlt_hv := hv.lt
  replace hl := hl.bnd
  have bf_hl := hl.bf
  replace hlx := fun x h_ => (hlx x h_).bnd
  have bf_hlx : BF (fun b => b ≠ sb ∧ b < H0.size) H0.size := fun b h => h.2
  have df_hl_hv : DF (fun b => b ≠ sb ∧ b < H0.size) (sb + 1) := fun b h => by have h1 := h.1; omega
  have df_hlx_hv : DF (fun b => b ≠ sb ∧ b < H0.size) (sb + 1) := fun b h => by have h1 := h.1; omega
  refine CW.seq (fun K1 hK1 hE1 => ?_)
  refine CW.region ?_
  refine LR.v (Y.assign rfl rfl) (Wd.u rfl) rfl rfl ?_
  refine LR.v (Y.assign rfl rfl) (Wd.u rfl) rfl rfl ?_
  refine LR.nil ?_
  refine hK1 _ _ ?_
  refine CW.scope (fun K2 hK2 hE2 => ?_)
  refine CW.seq (fun K3 hK3 hE3 => ?_)
  refine CW.region ?_
  refine LR.z (Z.makeMp vA (id : Value → Value) rfl) (Wd.u rfl) rfl rfl (fun v15 H15 r15 => ?_)
  obtain ⟨rfl, mo, hs15, ob15, hH15⟩ := r15
  have hzs15 : H15.size = H0.size + 1 := by rw [hH15]; simp
  have dj1 : Dj (sb + 1) (H0.size + 1) := Dj.new hv.lt
  have df2 := (DF.new (bf_hsr.mono hm0.size) : DF _ (H0.size + 1))
  have df3 := (DF.new (bf_hl.mono hm0.size) : DF _ (H0.size + 1))
  have df4 := (DF.new (bf_hlx.mono hm0.size) : DF _ (H0.size + 1))
  have nx5 : Nx 0 H0.size (H0.size + 1) := Nx.new hm0.size
  replace hv := hv.nw hs15
  replace hsr := hsr.nw hs15
  replace hl := hl.nw hs15
  replace hlx := fun x h_ => (hlx x h_).nw hs15
  replace hm0 := hm0.trN hs15
  have hz1 := hs15.size
  have hlt_mo := mo.lt
  refine LR.v (Y.assign rfl rfl) (Wd.u rfl) rfl rfl ?_
  refine LR.nil ?_
  refine hK3 _ _ ?_
  refine CW.seq (fun K4 hK4 hE4 => ?_)
  refine CW.region ?_
  refine LR.v (Y.assign rfl rfl) (Wd.u rfl) rfl rfl ?_
  refine LR.nil ?_
  refine hK4 _ _ ?_
  refine CW.seq (fun K5 hK5 hE5 => ?_)
  refine CW.seq (fun K6 hK6 hE6 => ?_)
  refine CW.region ?_
  refine LR.v (Y.move rfl rfl) (Wd.u rfl) rfl rfl ?_
  refine LR.v (Y.len hl rfl Try.runUnderlying92 rfl) (Wd.u rfl) rfl rfl ?_
  refine LR.v (Y.move rfl rfl) (Wd.u rfl) rfl rfl ?_
  refine LR.nil ?_
  refine hK6 _ _ ?_
  refine CW.block (fun K7 hK7 hX7 hE7 => ?_)
  refine CW.loop (fun (s_ : (Nat) × (SV) × (Nat)) => match s_ with | (j, o, kr) => [(0, So.v sb), (6, .map (some H0.size)), (7, o.v), (16, vl), (17, .int .i64 (ls.length : Int)), (18, .int .i64 (j : Int))])
    (fun (s_ : (Nat) × (SV) × (Nat)) (H : Heap) => match s_ with | (j, o, kr) => (j ≤ ls.length) ∧ (Ow kr 30 H fA 32 o.v ((ls.take j).flatMap (·.2))) ∧ (Nx 0 H15.size kr) ∧ Nw H15 H)
    (fun (s_ : (Nat) × (SV) × (Nat)) => match s_ with | (j, o, kr) => ls.length - j) (0, ⟨none, 0, 0⟩, 0) ⟨rfl, rfl, rfl, rfl, rfl, rfl, trivial⟩ ?_ ?_
  ·
    exact ⟨(by omega), Ow.nil fA_len fA_one, Nx.refl _ _, Mo.refl _ _⟩
  rintro ⟨j, o, kr⟩ HL1 hI1 K8 hN8 hE8
  obtain ⟨hj, ow, nxl_ow, hlm1⟩ := hI1
  have dj6 : Dj (sb + 1) kr := Dj.app (Dj.z) hv.lt nxl_ow
  have df7 := DF.app (DF.z) (bf_hsr.mono hm0.size) nxl_ow
  have df8 := DF.app (DF.z) (bf_hl.mono hm0.size) nxl_ow
  have df9 := DF.app (DF.z) (bf_hlx.mono hm0.size) nxl_ow
  have dj10 : Dj (H0.size + 1) kr := Dj.app (Dj.z) mo.lt nxl_ow
  have nx11 : Nx 0 H0.size kr := Nx.tr (Nx.refl 0 _) nxl_ow hm0.size
  replace hv := hv.nw hlm1
  replace hsr := hsr.nw hlm1
  replace hl := hl.nw hlm1
  replace hlx := fun x h_ => (hlx x h_).nw hlm1
  replace mo := mo.nw hlm1
  replace hm0 := hm0.trN hlm1
  have hz2 := hlm1.size
  have hle_ow := ow.le
  have nx12 := nxl_ow
  refine CW.seq (fun K9 hK9 hE9 => ?_)
  refine CW.region ?_
  refine LR.v (Y.lss rfl rfl rfl) (Wd.u rfl) rfl rfl ?_
  refine LR.nil ?_
  refine hK9 _ _ ?_
  refine CW.seq (fun K10 hK10 hE10 => ?_)
  refine CW.condp rfl (fun c19 => ?_) (fun c19 => ?_)
  ·
    refine CW.skip ?_
    refine hK10 _ _ ?_
    refine CW.seq (fun K11 hK11 hE11 => ?_)
    refine CW.block (fun K12 hK12 hX12 hE12 => ?_)
    refine CW.seq (fun K13 hK13 hE13 => ?_)
    refine CW.region ?_
    refine LR.e (g := fun ad => .pointer (some ad)) (Y.indexAddrF hl (j) rfl Try.runUnderlying92 Try.sizeOf28 rfl rfl (by first | rfl | omega) (by omega)) (Wd.u rfl) rfl rfl (fun ad20 pt20 => ?_)
    have bf_pt20 := bf_hl
    refine LR.v (Y.load1 pt20.pt rfl Try.isAgg28 rfl) (Wd.u rfl) rfl rfl ?_
    refine LR.v (Y.assign rfl rfl) (Wd.u rfl) rfl rfl ?_
    refine LR.nil ?_
    refine hK13 _ _ ?_
    refine CW.region ?_
    refine LR.v (Y.move rfl rfl) (Wd.u rfl) rfl rfl ?_
    refine LR.v (Y.move rfl rfl) (Wd.u rfl) rfl rfl ?_
    have hfs := flat_snoc (fun x : SV × List Ide => x.2) ls j (by omega)
    have hft := flat_take (fun x : SV × List Ide => x.2) ls (j + 1)
    rw [hfs, List.length_append] at hft
    refine LR.z (Z.apnd ow (hlx _ (List.getElem_mem (by omega : j < ls.length))) rfl inf28 rfl rfl (by first | omega | (simp; omega)) (by first | omega | (simp; omega))) (Wd.u rfl) rfl rfl (fun v24 H24 r24 => ?_)
    obtain ⟨k24, ow24, hk24, hs24⟩ := r24
    replace hk24 : Nx kr HL1.size k24 := hk24
    replace hs24 := hs24.md
    have dj13 : Dj (sb + 1) k24 := Dj.app (dj6) hv.lt hk24
    have df14 := DF.app (df7) (bf_hsr.mono hm0.size) hk24
    have df15 := DF.app (df8) (bf_hl.mono hm0.size) hk24
    have df16 := DF.app (df9) (bf_hlx.mono hm0.size) hk24
    have dj17 : Dj (H0.size + 1) k24 := Dj.app (dj10) mo.lt hk24
    have nx18 : Nx 0 H0.size k24 := Nx.tr (nx11) hk24 hm0.size
    have nx19 : Nx 0 H15.size k24 := Nx.tr (nx12) hk24 hlm1.size
    replace hv := hv.upL hs24 (DL.cons dj6 DL.nil)
    replace hsr := hsr.upL hs24 (DFL.cons df7 DFL.nil)
    replace hl := hl.upL hs24 (DFL.cons df8 DFL.nil)
    replace hlx := fun x h_ => (hlx x h_).upL hs24 (DFL.cons df9 DFL.nil)
    replace mo := mo.upL hs24 (DL.cons dj10 DL.nil)
    replace hm0 := hm0.trL hs24 (MIL.cons (MI.app MI.z (nx11) (Nat.le_refl _)) MIL.nil)
    replace hlm1 := (Mo.trL (ks := []) (hlm1.mdn []) hs24 (MIL.cons (MI.app MI.z (nx12) (Nat.le_refl _)) MIL.nil)).nil
    have hz3 := hs24.size
    have hle_ow24 := ow24.le
    obtain ⟨s24, rfl⟩ : ∃ s : SV, v24 = s.v := ⟨toSV v24, ow24.sv.symm⟩
    refine LR.v (Y.assign rfl rfl) (Wd.u rfl) rfl rfl ?_
    refine LR.nil ?_
    refine hK12 _ _ ?_
    refine hK11 _ _ ?_
    refine CW.region ?_
    refine LR.v (Y.addi rfl rfl rfl (by omega)) (Wd.u rfl) rfl rfl ?_
    refine LR.v (Y.move rfl rfl) (Wd.u rfl) rfl rfl ?_
    refine LR.nil ?_
    refine QN.sub (hN8 (j + 1, s24, k24) _ ?_ ?_) ⟨rfl, rfl, rfl, rfl, (iv (by omega)), (iv (by omega)), trivial⟩
    · exact ⟨(by omega), by rw [flat_snoc _ _ _ (show j < ls.length by omega)]; exact ow24, (by assumption), hlm1⟩
    · first | omega | (simp only; omega) | (simp; omega)
  ·
    have hjl : j = ls.length := by omega
    rw [hjl, List.take_length] at ow
    refine CW.exit (hE10 (.exit 0) nofun _ _ (hE8 (.exit 0) nofun _ _ (hX7 _ _ ?_)))
    refine hK5 _ _ ?_
    refine CW.seq (fun K14 hK14 hE14 => ?_)
    refine CW.label ?_
    refine hK14 _ _ ?_
    refine CW.seq (fun K15 hK15 hE15 => ?_)
    refine CW.block (fun K16 hK16 hX16 hE16 => ?_)
    refine CW.loop (fun (s_ : (List (Ide × Value)) × (SV) × (Nat) × (List Ide) × (Nat) × (Nat → Prop)) => match s_ with | (m, o2, kr2, row, q, G) => [(0, So.v sb), (6, .map (some H0.size)), (7, o2.v)])
      (fun (s_ : (List (Ide × Value)) × (SV) × (Nat) × (List Ide) × (Nat) × (Nat → Prop)) (H : Heap) => match s_ with | (m, o2, kr2, row, q, G) => (Var So.e H sb (So.cs q)) ∧ (Mp H vA (id : Value → Value) H0.size m) ∧ (Ow kr2 30 H fA 32 o2.v row) ∧ (∀ k, Rd G H fA 32 ((mget m k).getD nilS) (cpa So.pa (m.map (·.1)) k)) ∧ (BF G H.size) ∧ (DF G (sb + 1)) ∧ (DF G (H0.size + 1)) ∧ (DF G kr2) ∧ (∀ b, G b → H0.size ≤ b) ∧ (AInv So.pa (ls.flatMap (·.2)) (m.map (·.1)) row) ∧ (q = n + m.length) ∧ (row.length ≤ 1000000 + m.length * 1000) ∧ (Nx kr HL1.size kr2) ∧ (Dj (sb + 1) kr2) ∧ (Dj (H0.size + 1) kr2) ∧ Mo (Ms [(sb + 1), (H0.size + 1), kr]) HL1 H)
      (fun (s_ : (List (Ide × Value)) × (SV) × (Nat) × (List Ide) × (Nat) × (Nat → Prop)) => match s_ with | (m, o2, kr2, row, q, G) => (5000 - m.length) * 1001 + row.length) ([], o, kr, ls.flatMap (·.2), n, fun _ => False) ⟨rfl, rfl, rfl, trivial⟩ ?_ ?_
    ·
      exact ⟨hv, mo, ow, (fun k => Rd.nil _ _ _ _), (fun b e => e.elim), (fun b e => e.elim), (fun b e => e.elim), (fun b e => e.elim), (fun b e => e.elim), AInv.start _, rfl, by omega, Nx.refl _ _, dj6, dj10, Mo.refl _ _⟩
    rintro ⟨m, o2, kr2, row, q, G⟩ HL2 hI2 K17 hN17 hE17
    obtain ⟨hv, mo, ow, hcr, bf_hcr, fg1, fg2, fg3, hG, hI, hq, hrl, nxl_ow, dj_hv_ow, dj_mo_ow, hlm2⟩ := hI2
    have df20 := DF.app (df7) (bf_hsr.mono hm0.size) nxl_ow
    have df21 := DF.app (df8) (bf_hl.mono hm0.size) nxl_ow
    have df22 := DF.app (df9) (bf_hlx.mono hm0.size) nxl_ow
    have nx23 : Nx 0 H0.size kr2 := Nx.tr (nx11) nxl_ow hm0.size
    replace hsr := hsr.upL hlm2 (DFL.cons dfs (DFL.cons df2 (DFL.cons df7 DFL.nil)))
    replace hl := hl.upL hlm2 (DFL.cons df_hl_hv (DFL.cons df3 (DFL.cons df8 DFL.nil)))
    replace hlx := fun x h_ => (hlx x h_).upL hlm2 (DFL.cons df_hlx_hv (DFL.cons df4 (DFL.cons df9 DFL.nil)))
    replace hm0 := hm0.trL hlm2 (MIL.cons (MI.app (MI.root (by simp)) (nx_hm0_hv) (Nat.le_refl _)) (MIL.cons (MI.app MI.z (nx5) (Nat.le_refl _)) (MIL.cons (MI.app MI.z (nx11) (Nat.le_refl _)) MIL.nil)))
    have hz4 := hlm2.size
    have hle_ow := ow.le
    have dj24 := dj_hv_ow
    have dj25 := dj_mo_ow
    have nx_hlm2_hv := Nx.refl (sb + 1) HL1.size
    have nx_hlm2_mo := Nx.refl (H0.size + 1) HL1.size
    have nx26 := nxl_ow
    have hml := hI.le
    rw [List.length_map] at hml
    refine CW.seq (fun K18 hK18 hE18 => ?_)
    refine CW.seq (fun K19 hK19 hE19 => ?_)
    refine CW.region ?_
    refine LR.v (Y.move rfl rfl) (Wd.u rfl) rfl rfl ?_
    refine LR.v (Y.len ow.rd rfl Try.runUnderlying28 rfl) (Wd.u rfl) rfl rfl ?_
    refine LR.v (Y.gtr rfl rfl rfl) (Wd.u rfl) rfl rfl ?_
    refine LR.nil ?_
    refine hK19 _ _ ?_
    refine CW.condp rfl (fun c28 => ?_) (fun c28 => ?_)
    ·
      obtain ⟨r0, x, rfl⟩ := snoc_of (l := row) (by omega)
      have hrx : (r0 ++ [x]).length = r0.length + 1 := by simp
      refine CW.skip ?_
      refine hK18 _ _ ?_
      refine CW.block (fun K20 hK20 hX20 hE20 => ?_)
      refine CW.seq (fun K21 hK21 hE21 => ?_)
      refine CW.region ?_
      refine LR.v (Y.move rfl rfl) (Wd.u rfl) rfl rfl ?_
      refine LR.v (Y.move rfl rfl) (Wd.u rfl) rfl rfl ?_
      refine LR.v (Y.len ow.rd rfl Try.runUnderlying28 rfl) (Wd.u rfl) rfl rfl ?_
      refine LR.v (Y.cast (v2 := .int .i64 (r0.length : Int)) (Y.subi rfl rfl rfl (by omega)) (ivv (by rw [hrx]; omega))) (Wd.u rfl) rfl rfl ?_
      refine LR.v (Y.owAddr ow (r0.length) rfl Try.runUnderlying28 Try.sizeOf30 rfl rfl (by first | rfl | omega) (by simp)) (Wd.u rfl) rfl rfl ?_
      refine LR.v (Y.cast (v2 := vA x) (Y.loadN (ow.pt (j := r0.length) (by simp)) rfl Try.isAgg30 Try.sizeOf30 (fA_len _) rfl) (by rw [List.getElem_concat_length rfl]; rfl)) (Wd.u rfl) rfl rfl ?_
      refine LR.z (Z.allocv rfl Try.zeroValue30) (Wd.u rfl) rfl rfl (fun v10 H10 r10 => ?_)
      obtain ⟨rfl, vi, hs10, ob10, hH10⟩ := r10
      have hzs10 : H10.size = HL2.size + 1 := by rw [hH10]; simp
      have df27 := (DF.new (bf_hsr.mono hm0.size) : DF _ (HL2.size + 1))
      have df28 := (DF.new (bf_hl.mono hm0.size) : DF _ (HL2.size + 1))
      have df29 := (DF.new (bf_hlx.mono hm0.size) : DF _ (HL2.size + 1))
      have dj30 : Dj kr2 (HL2.size + 1) := Dj.new ow.le
      have dj31 : Dj (sb + 1) (HL2.size + 1) := Dj.new hv.lt
      have dj32 : Dj (H0.size + 1) (HL2.size + 1) := Dj.new mo.lt
      have df33 := (DF.new (bf_hcr.mono (by omega)) : DF _ (HL2.size + 1))
      have nx34 : Nx 0 H0.size (HL2.size + 1) := Nx.new hm0.size
      have nx35 : Nx 0 HL1.size (HL2.size + 1) := Nx.new hlm2.size
      replace hsr := hsr.nw hs10
      replace hl := hl.nw hs10
      replace hlx := fun x h_ => (hlx x h_).nw hs10
      replace ow := ow.nw hs10
      replace hv := hv.nw hs10
      replace mo := mo.nw hs10
      replace hcr := fun k => (hcr k).nw hs10
      replace hm0 := hm0.trN hs10
      replace hlm2 := hlm2.trN hs10
      have hz5 := hs10.size
      replace vi : Var 30 H10 HL2.size (fA Zid) := vi
      refine LR.s (S.var vi (_) (fA (x)) rfl rfl rfl rfl (fA_one _) Try.sizeOf30 (fA_len _) (by first | decide | simp [fA_len]) ((splice_all2 (by first | exact (fA_len _).symm | rfl | exact (fA_len _).trans (fA_len _).symm)))) (Wd.u rfl) rfl (fun H9_7 r9_7 => ?_)
      obtain ⟨vi, hs9_7⟩ := r9_7
      replace hs9_7 := hs9_7.md1
      replace hsr := hsr.upL hs9_7 (DFL.cons df27 DFL.nil)
      replace hl := hl.upL hs9_7 (DFL.cons df28 DFL.nil)
      replace hlx := fun x h_ => (hlx x h_).upL hs9_7 (DFL.cons df29 DFL.nil)
      replace ow := ow.upL hs9_7 (DL.cons dj30 DL.nil)
      replace hv := hv.upL hs9_7 (DL.cons dj31 DL.nil)
      replace mo := mo.upL hs9_7 (DL.cons dj32 DL.nil)
      replace hcr := fun k => (hcr k).upL hs9_7 (DFL.cons df33 DFL.nil)
      replace hm0 := hm0.trL hs9_7 (MIL.cons (MI.app MI.z (nx34) (Nat.le_refl _)) MIL.nil)
      replace hlm2 := hlm2.trL hs9_7 (MIL.cons (MI.app MI.z (nx35) (Nat.le_refl _)) MIL.nil)
      have hz6 := hs9_7.size
      refine LR.nil ?_
      refine hK21 _ _ ?_
      refine CW.seq (fun K22 hK22 hE22 => ?_)
      refine CW.region ?_
      refine LR.v (Y.move rfl rfl) (Wd.u rfl) rfl rfl ?_
      refine LR.v (Y.move rfl rfl) (Wd.u rfl) rfl rfl ?_
      refine LR.v (Y.len ow.rd rfl Try.runUnderlying28 rfl) (Wd.u rfl) rfl rfl ?_
      refine LR.v (Y.cast (v2 := .int .i64 (r0.length : Int)) (Y.subi rfl rfl rfl (by omega)) (ivv (by rw [hrx]; omega))) (Wd.u rfl) rfl rfl ?_
      refine LR.e (g := fun v => v) (Y.owFront ow (r0.length) rfl Try.runUnderlying28 Try.sizeOf30 rfl rfl (by first | rfl | omega) (by simp)) (Wd.u rfl) rfl rfl (fun v39 ow => ?_)
      rw [List.take_left] at ow
      obtain ⟨s39, rfl⟩ : ∃ s : SV, v39 = s.v := ⟨toSV v39, ow.sv.symm⟩
      refine LR.v (Y.assign rfl rfl) (Wd.u rfl) rfl rfl ?_
      refine LR.nil ?_
      refine hK22 _ _ ?_
      refine CW.seq (fun K23 hK23 hE23 => ?_)
      refine CW.seq (fun K24 hK24 hE24 => ?_)
      refine CW.region ?_
      refine LR.v (Y.move rfl rfl) (Wd.u rfl) rfl rfl ?_
      refine LR.v (Y.loadN vi.pt rfl Try.isAgg30 Try.sizeOf30 (fA_len _) rfl) (Wd.u rfl) rfl rfl ?_
      refine LR.v (Y.lookupOkA mo.mo keyId rfl Try.runUnderlying69 Try.zeroValue28 rfl rfl) (Wd.u rfl) rfl rfl ?_
      refine LR.v (Y.move rfl rfl) (Wd.u rfl) rfl rfl ?_
      refine LR.v (Y.extract rfl rfl rfl) (Wd.u rfl) rfl rfl ?_
      refine LR.v (Y.extract rfl rfl rfl) (Wd.u rfl) rfl rfl ?_
      refine LR.v (Y.assign rfl rfl) (Wd.u rfl) rfl rfl ?_
      refine LR.v (Y.assign rfl rfl) (Wd.u rfl) rfl rfl ?_
      refine LR.nil ?_
      refine hK24 _ _ ?_
      refine CW.seq (fun K25 hK25 hE25 => ?_)
      refine CW.region ?_
      refine LR.v (Y.move rfl rfl) (Wd.u rfl) rfl rfl ?_
      refine LR.nil ?_
      refine hK25 _ _ ?_
      refine CW.cond rfl (fun c46 => ?_) (fun c46 => ?_)
      ·
        refine CW.exit (hE23 (.exit 3) nofun _ _ (hX20 _ _ ?_))
        refine QN.sub (hN17 (m, s39, kr2, r0, q, G) _ ?_ ?_) ⟨rfl, rfl, rfl, trivial⟩
        · exact ⟨hv, mo, ow, hcr, (bf_hcr.mono (by omega)), fg1, fg2, fg3, (by omega), hI.skip (isSome_iff_key.1 c46), (by omega), by omega, nx26, dj24, dj25, hlm2⟩
        · simp <;> omega
      ·
        refine CW.skip ?_
        refine hK23 _ _ ?_
        refine CW.seq (fun K26 hK26 hE26 => ?_)
        refine CW.seq (fun K27 hK27 hE27 => ?_)
        refine CW.region ?_
        refine LR.v (Y.move rfl rfl) (Wd.u rfl) rfl rfl ?_
        refine LR.v (Y.mlen mo.mo rfl Try.runUnderlying69 rfl) (Wd.u rfl) rfl rfl ?_
        refine LR.v (Y.eql rfl rfl rfl) (Wd.u rfl) rfl rfl ?_
        refine LR.nil ?_
        refine hK27 _ _ ?_
        refine CW.condp rfl (fun c49 => ?_) (fun c49 => ?_)
        ·
          refine CW.seq (fun K28 hK28 hE28 => ?_)
          refine CW.region ?_
          refine LR.v (Y.mki rfl Try.runUnderlying76 (by intro ms h; cases h) rfl) (Wd.u rfl) rfl rfl ?_
          refine LR.v (Y.assign rfl rfl) (Wd.u rfl) rfl rfl ?_
          refine LR.v (Y.assign rfl rfl) (Wd.u rfl) rfl rfl ?_
          refine LR.nil ?_
          refine hK28 _ _ ?_
          refine CW.ret (hE26 .ret nofun _ _ (hE20 .ret nofun (by simp) _ _ (hE17 .ret nofun _ _ (hE16 .ret nofun (by simp) _ _ (hE15 .ret nofun _ _ (hE2 .ret nofun nofun _ _ (hret .ret (.inr rfl) _ _ _ (res2 rfl rfl rfl) ?_)))))))
          exact ⟨.map none, m, 4, q, rfl, ⟨fun h => absurd h (by omega)⟩, hv, hI.many (fun h => by rw [isSome_iff_key.2 h] at c46; cases c46) (by rw [List.length_map]; omega), ⟨fun h => absurd h (by omega), by omega⟩, hm0⟩
        ·
          refine CW.skip ?_
          refine hK26 _ _ ?_
          refine CW.seq (fun K29 hK29 hE29 => ?_)
          refine CW.region ?_
          refine LR.v (Y.move rfl rfl) (Wd.u rfl) rfl rfl ?_
          refine LR.v (Y.loadN vi.pt rfl Try.isAgg30 Try.sizeOf30 (fA_len _) rfl) (Wd.u rfl) rfl rfl ?_
          -- invoke Parents
          refine LR.calli (mth So sb) rfl rfl rfl (Wd.u rfl) rfl rfl (par_ct So sb _ x _ w0 _ hv hsr (bf_hsr.mono hm0.size) dfs hok (by omega)) (fun v54 H54 r54 => ?_)
          obtain ⟨s54, ps, e54, rfl, hp, hr, hv, hs54⟩ := r54
          replace hsr := hsr.upL hs54 (DFL.cons dfs DFL.nil)
          replace hl := hl.upL hs54 (DFL.cons df_hl_hv DFL.nil)
          replace hlx := fun x h_ => (hlx x h_).upL hs54 (DFL.cons df_hlx_hv DFL.nil)
          replace ow := ow.upL hs54 (DL.cons dj24.symm DL.nil)
          replace mo := mo.upL hs54 (DL.cons dj1.symm DL.nil)
          replace hcr := fun k => (hcr k).upL hs54 (DFL.cons fg1 DFL.nil)
          replace vi := vi.upL hs54 (DL.cons dj31.symm DL.nil)
          replace hm0 := hm0.trL hs54 (MIL.cons (MI.app (MI.root (by simp)) (nx_hm0_hv) (Nat.le_refl _)) MIL.nil)
          replace hlm2 := hlm2.trL hs54 (MIL.cons (MI.app (MI.root (by simp)) (nx_hlm2_hv) (Nat.le_refl _)) MIL.nil)
          have hz7 := hs54.size
          replace hr := hr.bnd
          have bf_hr := hr.bf
          have df36 : DF (fun b => H9_7.size ≤ b ∧ b < H54.size) kr2 := DF.above (fun b h => h.1) (by first | exact hle_ow | exact hlt_ow | omega)
          have df37 : DF (fun b => H9_7.size ≤ b ∧ b < H54.size) (sb + 1) := DF.above (fun b h => h.1) (by first | exact hle_hv | exact hlt_hv | omega)
          have df38 : DF (fun b => H9_7.size ≤ b ∧ b < H54.size) (H0.size + 1) := DF.above (fun b h => h.1) (by first | exact hle_mo | exact hlt_mo | omega)
          have df39 : DF (fun b => H9_7.size ≤ b ∧ b < H54.size) (HL2.size + 1) := DF.above (fun b h => h.1) (by first | exact hle_vi | exact hlt_vi | omega)
          refine LR.v (Y.move rfl rfl) (Wd.u rfl) rfl rfl ?_
          refine LR.v (Y.extract rfl rfl rfl) (Wd.u rfl) rfl rfl ?_
          refine LR.v (Y.extract rfl rfl rfl) (Wd.u rfl) rfl rfl ?_
          refine LR.v (Y.assign rfl rfl) (Wd.u rfl) rfl rfl ?_
          refine LR.v (Y.assign rfl rfl) (Wd.u rfl) rfl rfl ?_
          refine LR.nil ?_
          refine hK29 _ _ ?_
          refine CW.seq (fun K30 hK30 hE30 => ?_)
          refine CW.seq (fun K31 hK31 hE31 => ?_)
          refine CW.region ?_
          refine LR.v (Y.move rfl rfl) (Wd.u rfl) rfl rfl ?_
          refine LR.v (Y.ene rfl Try.underlying33 rfl) (Wd.u rfl) rfl rfl ?_
          refine LR.nil ?_
          refine hK31 _ _ ?_
          refine CW.condp rfl (fun c58 => ?_) (fun c58 => ?_)
          ·
            have he54 : e54 = 2 := by rcases hp with h | h <;> omega
            have hpn : So.pa x = none := by
              rcases hp with h | h
              · exact absurd h.1 (by omega)
              · exact h.2.1
            refine CW.seq (fun K32 hK32 hE32 => ?_)
            refine CW.region ?_
            refine LR.v (Y.move rfl rfl) (Wd.u rfl) rfl rfl ?_
            refine LR.v (Y.assign rfl rfl) (Wd.u rfl) rfl rfl ?_
            refine LR.v (Y.assign rfl rfl) (Wd.u rfl) rfl rfl ?_
            refine LR.nil ?_
            refine hK32 _ _ ?_
            refine CW.ret (hE30 .ret nofun _ _ (hE20 .ret nofun (by simp) _ _ (hE17 .ret nofun _ _ (hE16 .ret nofun (by simp) _ _ (hE15 .ret nofun _ _ (hE2 .ret nofun nofun _ _ (hret .ret (.inr rfl) _ _ _ (res2 rfl rfl rfl) ?_)))))))
            exact ⟨.map none, m, e54, q + 1, rfl, ⟨fun h => absurd h (by omega)⟩, hv, by rw [he54]; exact hI.none hpn, ⟨fun h => absurd h (by omega), by omega⟩, hm0⟩
          ·
            have he54 : e54 = 0 := by omega
            have hps : So.pa x = some ps := by
              rcases hp with h | h
              · exact h.2
              · exact absurd h.1 (by omega)
            have hpl := Sou.pa_le hok hps
            have hxk : x ∉ m.map (·.1) := fun h => by rw [isSome_iff_key.2 h] at c46; cases c46
            have hml5 : (m.map (·.1)).length ≠ 5000 := by rw [List.length_map]; omega
            refine CW.skip ?_
            refine hK30 _ _ ?_
            refine CW.seq (fun K33 hK33 hE33 => ?_)
            refine CW.region_any (fun Hq => Nw H54 Hq) [4] rfl ?_
            have hqs := Nw.refl H54
            refine LH.take 0 (by kernel_rfl) rfl (by kernel_rfl) (by kernel_rfl) (by kernel_rfl) (fun Hq hq => Y.move rfl rfl) (Wd.u rfl) rfl rfl hqs ?_
            refine LH.take 1 (by kernel_rfl) rfl (by kernel_rfl) (by kernel_rfl) (by kernel_rfl) (fun Hq hq => Y.loadN (vi.pt.nw hq) rfl Try.isAgg30 Try.sizeOf30 (fA_len _) rfl) (Wd.u rfl) rfl rfl hqs ?_
            refine LH.take 2 (by kernel_rfl) rfl (by kernel_rfl) (by kernel_rfl) (by kernel_rfl) (fun Hq hq => Y.move rfl rfl) (Wd.u rfl) rfl rfl hqs ?_
            refine LH.one (i := 3) (by kernel_rfl) ?_
            -- call slices.Clone[[]selvage/api.Id,selvage/api.Id]
            refine LO.call rfl rfl Try.call37 rfl (Wd.u rfl) rfl rfl (iclone_ct _ ps w0 _ hr.any (by omega)) (fun v63 H63 r63 => ?_)
            obtain ⟨s63, k63, rfl, ow63, hk63, hs63⟩ := r63
            have df40 := DF.app (DF.z) (bf_hsr.mono hm0.size) hk63
            have df41 := DF.app (DF.z) (bf_hl.mono hm0.size) hk63
            have df42 := DF.app (DF.z) (bf_hlx.mono hm0.size) hk63
            have dj43 : Dj kr2 k63 := Dj.app (Dj.z) ow.le hk63
            have dj44 : Dj (sb + 1) k63 := Dj.app (Dj.z) hv.lt hk63
            have dj45 : Dj (H0.size + 1) k63 := Dj.app (Dj.z) mo.lt hk63
            have df46 := DF.app (DF.z) (bf_hcr.mono (by omega)) hk63
            have dj47 : Dj (HL2.size + 1) k63 := Dj.app (Dj.z) vi.lt hk63
            have df48 := DF.app (DF.z) (bf_hr.mono (by omega)) hk63
            have nx49 : Nx 0 H0.size k63 := Nx.tr (Nx.refl 0 _) hk63 hm0.size
            have nx50 : Nx 0 HL1.size k63 := Nx.tr (Nx.refl 0 _) hk63 hlm2.size
            replace hsr := hsr.nw hs63
            replace hl := hl.nw hs63
            replace hlx := fun x h_ => (hlx x h_).nw hs63
            replace ow := ow.nw hs63
            replace hv := hv.nw hs63
            replace mo := mo.nw hs63
            replace hcr := fun k => (hcr k).nw hs63
            replace vi := vi.nw hs63
            replace hr := hr.nw hs63
            replace hm0 := hm0.trN hs63
            replace hlm2 := hlm2.trN hs63
            have hz8 := hs63.size
            have hle_ow63 := ow63.le
            have hq63 := hqs.tr hs63
            refine ⟨.inr hq63, LH.narrow (SH2 := fun Hq => Nw H63 Hq) (fun Hq hq => hq63.tr hq) ?_⟩
            have hqn63 := Nw.refl H63
            refine LH.one (i := 4) (by kernel_rfl) ?_
            refine LO.s rfl (S.putA (s63.v) mo keyId rfl Try.runUnderlying69 rfl rfl rfl) (Wd.u rfl) rfl (fun H18_4 r18_4 => ?_)
            obtain ⟨mo, hs18_4⟩ := r18_4
            replace hs18_4 := hs18_4.md1
            replace hsr := hsr.upL hs18_4 (DFL.cons df2 DFL.nil)
            replace hl := hl.upL hs18_4 (DFL.cons df3 DFL.nil)
            replace hlx := fun x h_ => (hlx x h_).upL hs18_4 (DFL.cons df4 DFL.nil)
            replace ow := ow.upL hs18_4 (DL.cons dj25.symm DL.nil)
            replace hv := hv.upL hs18_4 (DL.cons dj1 DL.nil)
            replace hcr := fun k => (hcr k).upL hs18_4 (DFL.cons fg2 DFL.nil)
            replace vi := vi.upL hs18_4 (DL.cons dj32.symm DL.nil)
            replace hr := hr.upL hs18_4 (DFL.cons df38 DFL.nil)
            replace ow63 := ow63.upL hs18_4 (DL.cons dj45.symm DL.nil)
            replace hm0 := hm0.trL hs18_4 (MIL.cons (MI.app MI.z (nx5) (Nat.le_refl _)) MIL.nil)
            replace hlm2 := hlm2.trL hs18_4 (MIL.cons (MI.app (MI.root (by simp)) (nx_hlm2_mo) (Nat.le_refl _)) MIL.nil)
            have hz9 := hs18_4.size
            refine ⟨.inl rfl, ?_⟩
            refine LH.done (by kernel_rfl) ?_
            have hqe := hqn63
            refine hK33 _ _ ?_
            refine CW.region ?_
            refine LR.v (Y.move rfl rfl) (Wd.u rfl) rfl rfl ?_
            refine LR.v (Y.move rfl rfl) (Wd.u rfl) rfl rfl ?_
            refine LR.z (Z.apnd ow hr rfl inf28 rfl rfl (by first | omega | (simp; omega)) (by first | omega | (simp; omega))) (Wd.u rfl) rfl rfl (fun v66 H66 r66 => ?_)
            obtain ⟨k66, ow66, hk66, hs66⟩ := r66
            replace hk66 : Nx kr2 H18_4.size k66 := hk66
            replace hs66 := hs66.md
            have df51 := DF.app (df20) (bf_hsr.mono hm0.size) hk66
            have df52 := DF.app (df21) (bf_hl.mono hm0.size) hk66
            have df53 := DF.app (df22) (bf_hlx.mono hm0.size) hk66
            have dj54 : Dj (sb + 1) k66 := Dj.app (dj24) hv.lt hk66
            have dj55 : Dj (H0.size + 1) k66 := Dj.app (dj25) mo.lt hk66
            have df56 := DF.app (fg3) (bf_hcr.mono (by omega)) hk66
            have df57 := DF.app (df36) (bf_hr.mono (by omega)) hk66
            have dj58 : Dj k63 k66 := Dj.app (dj43.symm) ow63.le hk66
            have nx59 : Nx 0 H0.size k66 := Nx.tr (nx23) hk66 hm0.size
            have nx60 : Nx kr HL1.size k66 := Nx.tr (nx26) hk66 hlm2.size
            replace hsr := hsr.upL hs66 (DFL.cons df20 DFL.nil)
            replace hl := hl.upL hs66 (DFL.cons df21 DFL.nil)
            replace hlx := fun x h_ => (hlx x h_).upL hs66 (DFL.cons df22 DFL.nil)
            replace hv := hv.upL hs66 (DL.cons dj24 DL.nil)
            replace mo := mo.upL hs66 (DL.cons dj25 DL.nil)
            replace hcr := fun k => (hcr k).upL hs66 (DFL.cons fg3 DFL.nil)
            replace hr := hr.upL hs66 (DFL.cons df36 DFL.nil)
            replace ow63 := ow63.upL hs66 (DL.cons dj43.symm DL.nil)
            replace hm0 := hm0.trL hs66 (MIL.cons (MI.app MI.z (nx23) (Nat.le_refl _)) MIL.nil)
            replace hlm2 := hlm2.trL hs66 (MIL.cons (MI.app (MI.root (by simp)) (nx26) (Nat.le_refl _)) MIL.nil)
            have hz10 := hs66.size
            have hle_ow66 := ow66.le
            obtain ⟨s66, rfl⟩ : ∃ s : SV, v66 = s.v := ⟨toSV v66, ow66.sv.symm⟩
            refine LR.v (Y.assign rfl rfl) (Wd.u rfl) rfl rfl ?_
            refine LR.nil ?_
            refine hK20 _ _ ?_
            have hgs : (mget m x).isSome = false := c46
            rw [mput_new hgs] at mo
            refine QN.sub (hN17 (m ++ [(x, s63.v)], s66, k66, r0 ++ ps, q + 1, fun b => G b ∨ b + 1 = k63) _ ?_ ?_) ⟨rfl, rfl, rfl, trivial⟩
            · exact ⟨hv, mo, ow66, cm_next hgs hxk hps hcr (ow63.rd), BF.or1 (bf_hcr.mono (by omega)) ow63.le, DF.or1 (fg1) (dj44), DF.or1 (fg2) (dj45), DF.or1 (df56) (dj58.symm), fun b e => e.elim (hG b) (fun e => by have := (nx49); unfold Nx at this; omega), by rw [List.map_append]; exact hI.next hxk hps hml5, by simp; omega, by simp; omega, nx60, dj54, dj55, hlm2⟩
            · simp <;> omega
    ·
      obtain rfl : row = [] := List.eq_nil_of_length_eq_zero (by omega)
      refine CW.exit (hE18 (.exit 2) nofun _ _ (hE17 (.exit 2) nofun _ _ (hX16 _ _ ?_)))
      refine hK15 _ _ ?_
      refine CW.seq (fun K34 hK34 hE34 => ?_)
      refine CW.region ?_
      refine LR.v (Y.move rfl rfl) (Wd.u rfl) rfl rfl ?_
      refine LR.v (Y.assign rfl rfl) (Wd.u rfl) rfl rfl ?_
      refine LR.v (Y.assign rfl rfl) (Wd.u rfl) rfl rfl ?_
      refine LR.nil ?_
      refine hK34 _ _ ?_
      refine CW.ret (hE2 .ret nofun nofun _ _ (hret .ret (.inr rfl) _ _ _ (res2 rfl rfl rfl) ?_))
      exact ⟨.map (some H0.size), m, 0, q, rfl, ⟨fun _ => ⟨mo.mo.imp (fun b _ e => by omega), fun k => (hcr k).imp (fun b _ e => hG b e)⟩⟩, hv, hI.done, ⟨fun _ => hq, by omega⟩, hm0⟩

end Go.Proofs.Ytepdhokpfecdnaa.GraC
/-
  Of some commits all that stand above others.
-/
namespace Go.Proofs.Ytepdhokpfecdnaa.GraD
open Go.Proofs.Ytepdhokpfecdnaa.E Go.RowKit Go.Proofs.Ytepdhokpfecdnaa.GraA Go.Proofs.Ytepdhokpfecdnaa.GraB Go.Proofs.Ytepdhokpfecdnaa.GraC
set_option maxRecDepth 20000
set_option linter.unusedVariables false
set_option linter.unusedSimpArgs false
set_option linter.unusedSectionVars false
set_option maxRecDepth 100000 in
theorem inf28 : Inf Try.prog 28 30 32 32 := ⟨Try.underlying28, _, _, rfl, rfl, rfl, rfl, rfl⟩

inductive Up (pa : Ide → List Ide) (i : Ide) : Ide → Prop
  | refl : Up pa i i
  | step {j p : Ide} : Up pa i j → p ∈ pa j → Up pa i p
structure BInv (pa : Ide → List Ide) (l C K row : List Ide) : Prop where
  nd : K.Nodup
  clo : ∀ k ∈ K, ∀ p ∈ pa k, p ∈ K ∨ p ∈ row
  sta : ∀ k ∈ l, k ∈ K ∨ k ∈ row
  up : ∀ k, k ∈ K ∨ k ∈ row → ∃ i ∈ l, Up pa i k
  sub : ∀ k, k ∈ K ∨ k ∈ row → k ∈ C
theorem nodup_le : ∀ {a b : List Ide}, a.Nodup → (∀ x ∈ a, x ∈ b) → a.length ≤ b.length
  | [], b, _, _ => by simp
  | x :: a, b, hn, h => by
    rw [List.nodup_cons] at hn
    have hx := h x List.mem_cons_self
    have h2 : ∀ y ∈ a, y ∈ b.erase x := fun y hy => by
      have hne : y ≠ x := fun e => hn.1 (e ▸ hy)
      exact (List.mem_erase_of_ne hne).2 (h y (List.mem_cons_of_mem _ hy))
    have := nodup_le hn.2 h2
    rw [List.length_erase_of_mem hx] at this
    have hpos := List.length_pos_of_mem hx
    rw [List.length_cons]; omega
section
variable {pa : Ide → List Ide} {l C K r0 : List Ide} {x : Ide}
theorem BInv.start (hl : ∀ k ∈ l, k ∈ C) : BInv pa l C [] l := ⟨List.nodup_nil, by simp, fun k h => .inr h, fun k h => by rcases h with h | h; cases h; exact ⟨k, h, .refl⟩, fun k h => by rcases h with h | h; cases h; exact hl k h⟩
theorem BInv.skip (h : BInv pa l C K (r0 ++ [x])) (hx : x ∈ K) : BInv pa l C K r0 := by
  have mv : ∀ p, p ∈ K ∨ p ∈ r0 ++ [x] → p ∈ K ∨ p ∈ r0 := by
    intro p h3
    rcases h3 with h3 | h3
    · exact .inl h3
    · rcases List.mem_append.1 h3 with h3 | h3
      · exact .inr h3
      · simp only [List.mem_singleton] at h3; subst h3; exact .inl hx
  exact ⟨h.nd, fun k hk p hp => mv p (h.clo k hk p hp), fun k hk => mv k (h.sta k hk), fun k hk => h.up k (hk.imp id (fun q => List.mem_append_left _ q)), fun k hk => h.sub k (hk.imp id (fun q => List.mem_append_left _ q))⟩
theorem BInv.next (h : BInv pa l C K (r0 ++ [x])) (hx : x ∉ K) (hC : ∀ p ∈ pa x, p ∈ C) : BInv pa l C (K ++ [x]) (r0 ++ pa x) := by
  have mv : ∀ k, k ∈ K ∨ k ∈ r0 ++ [x] → k ∈ K ++ [x] ∨ k ∈ r0 ++ pa x := by
    intro k hk
    rcases hk with hk | hk
    · exact .inl (List.mem_append_left _ hk)
    · rcases List.mem_append.1 hk with hk | hk
      · exact .inr (List.mem_append_left _ hk)
      · exact .inl (List.mem_append_right _ hk)
  have hux : ∃ i ∈ l, Up pa i x := h.up x (.inr (by simp))
  have wm : ∀ k, k ∈ K ++ [x] ∨ k ∈ r0 ++ pa x → (k ∈ K ∨ k ∈ r0 ++ [x]) ∨ k ∈ pa x := by
    intro k hk
    simp only [List.mem_append, List.mem_singleton] at hk ⊢
    rcases hk with (h1 | h1) | (h1 | h1)
    · exact .inl (.inl h1)
    · exact .inl (.inr (.inr h1))
    · exact .inl (.inr (.inl h1))
    · exact .inr h1
  refine ⟨?_, fun k hk p hp => ?_, fun k hk => mv k (h.sta k hk), fun k hk => ?_, fun k hk => ?_⟩
  · rw [List.nodup_append]
    exact ⟨h.nd, by simp, fun a ha b hb e => by simp only [List.mem_singleton] at hb; subst hb; subst e; exact hx ha⟩
  · rcases List.mem_append.1 hk with hk | hk
    · exact mv p (h.clo k hk p hp)
    · simp only [List.mem_singleton] at hk; subst hk
      exact .inr (List.mem_append_right _ hp)
  · rcases wm k hk with h1 | h1
    · exact h.up k h1
    · obtain ⟨i, hi, hu⟩ := hux
      exact ⟨i, hi, hu.step h1⟩
  · rcases wm k hk with h1 | h1
    · exact h.sub k h1
    · exact hC k h1
theorem BInv.len (h : BInv pa l C K r0) : K.length ≤ C.length := nodup_le h.nd (fun k hk => h.sub k (.inl hk))
theorem BInv.done (h : BInv pa l C K []) : ∀ k, k ∈ K ↔ ∃ i ∈ l, Up pa i k := by
  intro k
  refine ⟨fun hk => h.up k (.inl hk), fun ⟨i, hi, hu⟩ => ?_⟩
  have key : ∀ k, Up pa i k → k ∈ K := by
    intro k hu
    induction hu with
    | refl => exact (h.sta i hi).resolve_right (by simp)
    | step _ hp ih => exact (h.clo _ ih _ hp).resolve_right (by simp)
  exact key k hu
end
/-- what is asked of commits -/
structure Cok (m : List (Ide × Value)) (pa : Ide → List Ide) : Prop where
  le : m.length ≤ 5000
  clo : ∀ k, ∀ p ∈ pa k, p ∈ m.map (·.1)
  pl : ∀ k, (pa k).length ≤ 1000
theorem cok_of {S : Sou} {st : List Ide} {m : List (Ide × Value)} (hok : S.ok) (h : AllR S.pa st (m.map (·.1)) 0) : Cok m (cpa S.pa (m.map (·.1))) := by
  rcases h with ⟨_, h1, h2, h3, h4, h5⟩ | ⟨h, _⟩ | ⟨h, _⟩
  · refine ⟨by rw [List.length_map] at h5; exact h5, fun k p hp => ?_, fun k => ?_⟩
    · unfold cpa at hp
      split at hp
      · rename_i hk
        obtain ⟨ps, e, hc⟩ := h2 k hk
        rw [e] at hp; exact hc p hp
      · cases hp
    · unfold cpa
      split
      · rename_i hk
        obtain ⟨ps, e, hc⟩ := h2 k hk
        rw [e]; exact Sou.pa_le hok e
      · simp
  · cases h
  · cases h

theorem above_ct (F : Nat → Prop) (vc : Value) (m : List (Ide × Value)) (pa : Ide → List Ide) (v1 : Value) (l : List Ide) (w0 : World) (H0 : Heap)
    (hc : Cm F H0 vc m pa) (bf_hc : BF F H0.size) (hco : Cok m pa) (hl : RdT H0 fA 32 v1 l) (hlC : ∀ k ∈ l, k ∈ m.map (·.1)) (hll : l.length ≤ 10000000) :
    Ct Try.prog w0 28 #[vc, v1] H0 (fun r H2 => ∃ ab : Nat, ∃ mm : List (Ide × Int), r = .map (some ab) ∧ (Mp H2 vA (Value.int .i64) ab mm) ∧ (Nx 0 H0.size (ab + 1)) ∧ (∀ k, k ∈ mm.map (·.1) ↔ ∃ i ∈ l, Up pa i k) ∧ Nw H0 H2) := by
  refine Ct.enter (args := [vc, v1]) Try.func28 rfl rfl rfl ?_
  intro Q0 hret
  have hm0 : Nw H0 H0 := Mo.refl _ _
  replace hl := hl.bnd
  have bf_hl := hl.bf
  refine CW.seq (fun K1 hK1 hE1 => ?_)
  refine CW.region ?_
  refine LR.v (Y.assign rfl rfl) (Wd.u rfl) rfl rfl ?_
  refine LR.nil ?_
  refine hK1 _ _ ?_
  refine CW.seq (fun K2 hK2 hE2 => ?_)
  refine CW.region ?_
  refine LR.z (Z.makeMp vA (Value.int .i64) rfl) (Wd.u rfl) rfl rfl (fun v10 H10 r10 => ?_)
  obtain ⟨rfl, mo, hs10, ob10, hH10⟩ := r10
  have hzs10 : H10.size = H0.size + 1 := by rw [hH10]; simp
  have df1 := (DF.new (bf_hc.mono hm0.size) : DF _ (H0.size + 1))
  have df2 := (DF.new (bf_hl.mono hm0.size) : DF _ (H0.size + 1))
  have nx3 : Nx 0 H0.size (H0.size + 1) := Nx.new hm0.size
  replace hc := hc.nw hs10
  replace hl := hl.nw hs10
  replace hm0 := hm0.tr hs10
  have hz1 := hs10.size
  have hlt_mo := mo.lt
  refine LR.v (Y.assign rfl rfl) (Wd.u rfl) rfl rfl ?_
  refine LR.nil ?_
  refine hK2 _ _ ?_
  refine CW.seq (fun K3 hK3 hE3 => ?_)
  refine CW.region ?_
  refine LR.v (Y.move rfl rfl) (Wd.u rfl) rfl rfl ?_
  -- call slices.Clone[[]selvage/api.Id,selvage/api.Id]
  refine LR.call rfl Try.call37 rfl (Wd.u rfl) rfl rfl (iclone_ct _ l w0 _ hl.any (by omega)) (fun v12 H12 r12 => ?_)
  obtain ⟨s12, k12, rfl, ow, hk12, hs12⟩ := r12
  have df4 := DF.app (DF.z) (bf_hc.mono hm0.size) hk12
  have df5 := DF.app (DF.z) (bf_hl.mono hm0.size) hk12
  have dj6 : Dj (H0.size + 1) k12 := Dj.app (Dj.z) mo.lt hk12
  have nx7 : Nx 0 H0.size k12 := Nx.tr (Nx.refl 0 _) hk12 hm0.size
  replace hc := hc.nw hs12
  replace hl := hl.nw hs12
  replace mo := mo.nw hs12
  replace hm0 := hm0.tr hs12
  have hz2 := hs12.size
  have hle_ow := ow.le
  refine LR.v (Y.assign rfl rfl) (Wd.u rfl) rfl rfl ?_
  refine LR.nil ?_
  refine hK3 _ _ ?_
  refine CW.seq (fun K4 hK4 hE4 => ?_)
  refine CW.block (fun K5 hK5 hX5 hE5 => ?_)
  refine CW.loop (fun (s_ : (List (Ide × Int)) × (SV) × (Nat) × (List Ide)) => match s_ with | (mm, o, kr, row) => [(0, vc), (5, .map (some H0.size)), (6, o.v)])
    (fun (s_ : (List (Ide × Int)) × (SV) × (Nat) × (List Ide)) (H : Heap) => match s_ with | (mm, o, kr, row) => (Mp H vA (Value.int .i64) H0.size mm) ∧ (Ow kr 30 H fA 32 o.v row) ∧ (BInv pa l (m.map (·.1)) (mm.map (·.1)) row) ∧ (row.length ≤ 10000000 + mm.length * 1000) ∧ (Nx k12 H12.size kr) ∧ (Dj (H0.size + 1) kr) ∧ Mo (Ms [(H0.size + 1), k12]) H12 H)
    (fun (s_ : (List (Ide × Int)) × (SV) × (Nat) × (List Ide)) => match s_ with | (mm, o, kr, row) => (5000 - mm.length) * 1001 + row.length) ([], s12, k12, l) ⟨rfl, rfl, rfl, trivial⟩ ?_ ?_
  ·
    exact ⟨mo, ow, BInv.start hlC, by omega, Nx.refl _ _, dj6, Mo.refl _ _⟩
  rintro ⟨mm, o, kr, row⟩ HL1 hI1 K6 hN6 hE6
  obtain ⟨mo, ow, hI, hrl, nxl_ow, dj_mo_ow, hlm1⟩ := hI1
  have df8 := DF.app (df4) (bf_hc.mono hm0.size) nxl_ow
  have df9 := DF.app (df5) (bf_hl.mono hm0.size) nxl_ow
  have nx10 : Nx 0 H0.size kr := Nx.tr (nx7) nxl_ow hm0.size
  replace hc := hc.upL hlm1 (DFL.cons df1 (DFL.cons df4 DFL.nil))
  replace hl := hl.upL hlm1 (DFL.cons df2 (DFL.cons df5 DFL.nil))
  replace hm0 := (Mo.trL (ks := []) (hm0.mdn []) hlm1 (MIL.cons (MI.app MI.z (nx3) (Nat.le_refl _)) (MIL.cons (MI.app MI.z (nx7) (Nat.le_refl _)) MIL.nil))).nil
  have hz3 := hlm1.size
  have hle_ow := ow.le
  have dj11 := dj_mo_ow
  have nx_hlm1_mo := Nx.refl (H0.size + 1) H12.size
  have nx12 := nxl_ow
  have hml := hI.len
  rw [List.length_map, List.length_map] at hml
  have hml2 := hco.le
  refine CW.seq (fun K7 hK7 hE7 => ?_)
  refine CW.seq (fun K8 hK8 hE8 => ?_)
  refine CW.region ?_
  refine LR.v (Y.move rfl rfl) (Wd.u rfl) rfl rfl ?_
  refine LR.v (Y.len ow.rd rfl Try.runUnderlying28 rfl) (Wd.u rfl) rfl rfl ?_
  refine LR.v (Y.gtr rfl rfl rfl) (Wd.u rfl) rfl rfl ?_
  refine LR.nil ?_
  refine hK8 _ _ ?_
  refine CW.condp rfl (fun c15 => ?_) (fun c15 => ?_)
  ·
    obtain ⟨r0, x, rfl⟩ := snoc_of (l := row) (by omega)
    have hrx : (r0 ++ [x]).length = r0.length + 1 := by simp
    refine CW.skip ?_
    refine hK7 _ _ ?_
    refine CW.block (fun K9 hK9 hX9 hE9 => ?_)
    refine CW.seq (fun K10 hK10 hE10 => ?_)
    refine CW.region ?_
    refine LR.v (Y.move rfl rfl) (Wd.u rfl) rfl rfl ?_
    refine LR.v (Y.move rfl rfl) (Wd.u rfl) rfl rfl ?_
    refine LR.v (Y.len ow.rd rfl Try.runUnderlying28 rfl) (Wd.u rfl) rfl rfl ?_
    refine LR.v (Y.cast (v2 := .int .i64 (r0.length : Int)) (Y.subi rfl rfl rfl (by omega)) (ivv (by rw [hrx]; omega))) (Wd.u rfl) rfl rfl ?_
    refine LR.v (Y.owAddr ow (r0.length) rfl Try.runUnderlying28 Try.sizeOf30 rfl rfl (by first | rfl | omega) (by simp)) (Wd.u rfl) rfl rfl ?_
    refine LR.v (Y.cast (v2 := vA x) (Y.loadN (ow.pt (j := r0.length) (by simp)) rfl Try.isAgg30 Try.sizeOf30 (fA_len _) rfl) (by rw [List.getElem_concat_length rfl]; rfl)) (Wd.u rfl) rfl rfl ?_
    refine LR.z (Z.allocv rfl Try.zeroValue30) (Wd.u rfl) rfl rfl (fun v7 H7 r7 => ?_)
    obtain ⟨rfl, vi, hs7, ob7, hH7⟩ := r7
    have hzs7 : H7.size = HL1.size + 1 := by rw [hH7]; simp
    have df13 := (DF.new (bf_hc.mono hm0.size) : DF _ (HL1.size + 1))
    have df14 := (DF.new (bf_hl.mono hm0.size) : DF _ (HL1.size + 1))
    have dj15 : Dj kr (HL1.size + 1) := Dj.new ow.le
    have dj16 : Dj (H0.size + 1) (HL1.size + 1) := Dj.new mo.lt
    have nx17 : Nx 0 H0.size (HL1.size + 1) := Nx.new hm0.size
    have nx18 : Nx 0 H12.size (HL1.size + 1) := Nx.new hlm1.size
    replace hc := hc.nw hs7
    replace hl := hl.nw hs7
    replace ow := ow.nw hs7
    replace mo := mo.nw hs7
    replace hm0 := hm0.tr hs7
    replace hlm1 := hlm1.trN hs7
    have hz4 := hs7.size
    replace vi : Var 30 H7 HL1.size (fA Zid) := vi
    refine LR.s (S.var vi (_) (fA (x)) rfl rfl rfl rfl (fA_one _) Try.sizeOf30 (fA_len _) (by first | decide | simp [fA_len]) ((splice_all2 (by first | exact (fA_len _).symm | rfl | exact (fA_len _).trans (fA_len _).symm)))) (Wd.u rfl) rfl (fun H4_7 r4_7 => ?_)
    obtain ⟨vi, hs4_7⟩ := r4_7
    replace hs4_7 := hs4_7.md1
    replace hc := hc.upL hs4_7 (DFL.cons df13 DFL.nil)
    replace hl := hl.upL hs4_7 (DFL.cons df14 DFL.nil)
    replace ow := ow.upL hs4_7 (DL.cons dj15 DL.nil)
    replace mo := mo.upL hs4_7 (DL.cons dj16 DL.nil)
    replace hm0 := (Mo.trL (ks := []) (hm0.mdn []) hs4_7 (MIL.cons (MI.app MI.z (nx17) (Nat.le_refl _)) MIL.nil)).nil
    replace hlm1 := hlm1.trL hs4_7 (MIL.cons (MI.app MI.z (nx18) (Nat.le_refl _)) MIL.nil)
    have hz5 := hs4_7.size
    refine LR.nil ?_
    refine hK10 _ _ ?_
    refine CW.seq (fun K11 hK11 hE11 => ?_)
    refine CW.region ?_
    refine LR.v (Y.move rfl rfl) (Wd.u rfl) rfl rfl ?_
    refine LR.v (Y.move rfl rfl) (Wd.u rfl) rfl rfl ?_
    refine LR.v (Y.len ow.rd rfl Try.runUnderlying28 rfl) (Wd.u rfl) rfl rfl ?_
    refine LR.v (Y.cast (v2 := .int .i64 (r0.length : Int)) (Y.subi rfl rfl rfl (by omega)) (ivv (by rw [hrx]; omega))) (Wd.u rfl) rfl rfl ?_
    refine LR.e (g := fun v => v) (Y.owFront ow (r0.length) rfl Try.runUnderlying28 Try.sizeOf30 rfl rfl (by first | rfl | omega) (by simp)) (Wd.u rfl) rfl rfl (fun v26 ow => ?_)
    rw [List.take_left] at ow
    obtain ⟨s26, rfl⟩ : ∃ s : SV, v26 = s.v := ⟨toSV v26, ow.sv.symm⟩
    refine LR.v (Y.assign rfl rfl) (Wd.u rfl) rfl rfl ?_
    refine LR.nil ?_
    refine hK11 _ _ ?_
    refine CW.seq (fun K12 hK12 hE12 => ?_)
    refine CW.region ?_
    refine LR.v (Y.move rfl rfl) (Wd.u rfl) rfl rfl ?_
    refine LR.v (Y.loadN vi.pt rfl Try.isAgg30 Try.sizeOf30 (fA_len _) rfl) (Wd.u rfl) rfl rfl ?_
    refine LR.v (Y.lookupOkA mo.mo keyId rfl Try.runUnderlying72 Try.zeroValue3 rfl rfl) (Wd.u rfl) rfl rfl ?_
    refine LR.v (Y.move rfl rfl) (Wd.u rfl) rfl rfl ?_
    refine LR.v (Y.extract rfl rfl rfl) (Wd.u rfl) rfl rfl ?_
    refine LR.v (Y.extract rfl rfl rfl) (Wd.u rfl) rfl rfl ?_
    refine LR.v (Y.assign rfl rfl) (Wd.u rfl) rfl rfl ?_
    refine LR.v (Y.assign rfl rfl) (Wd.u rfl) rfl rfl ?_
    refine LR.nil ?_
    refine hK12 _ _ ?_
    refine CW.seq (fun K13 hK13 hE13 => ?_)
    refine CW.region ?_
    refine LR.v (Y.move rfl rfl) (Wd.u rfl) rfl rfl ?_
    refine LR.v (Y.not rfl rfl) (Wd.u rfl) rfl rfl ?_
    refine LR.nil ?_
    refine hK13 _ _ ?_
    refine CW.cond rfl (fun c34 => ?_) (fun c34 => ?_)
    ·
      have hgs : (mget mm x).isSome = false := by simpa using c34
      have hxk : x ∉ mm.map (·.1) := fun h => by rw [isSome_iff_key.2 h] at hgs; cases hgs
      have hpl := hco.pl x
      refine CW.seq (fun K14 hK14 hE14 => ?_)
      refine CW.region ?_
      refine LR.v (Y.move rfl rfl) (Wd.u rfl) rfl rfl ?_
      refine LR.v (Y.loadN vi.pt rfl Try.isAgg30 Try.sizeOf30 (fA_len _) rfl) (Wd.u rfl) rfl rfl ?_
      refine LR.v (Y.move rfl rfl) (Wd.u rfl) rfl rfl ?_
      refine LR.v (Y.mlen mo.mo rfl Try.runUnderlying72 rfl) (Wd.u rfl) rfl rfl ?_
      refine LR.s (S.putA ((mm.length : Int)) mo keyId rfl Try.runUnderlying72 rfl rfl rfl) (Wd.u rfl) rfl (fun H8_4 r8_4 => ?_)
      obtain ⟨mo, hs8_4⟩ := r8_4
      replace hs8_4 := hs8_4.md1
      replace hc := hc.upL hs8_4 (DFL.cons df1 DFL.nil)
      replace hl := hl.upL hs8_4 (DFL.cons df2 DFL.nil)
      replace ow := ow.upL hs8_4 (DL.cons dj11.symm DL.nil)
      replace vi := vi.upL hs8_4 (DL.cons dj16.symm DL.nil)
      replace hm0 := (Mo.trL (ks := []) (hm0.mdn []) hs8_4 (MIL.cons (MI.app MI.z (nx3) (Nat.le_refl _)) MIL.nil)).nil
      replace hlm1 := hlm1.trL hs8_4 (MIL.cons (MI.app (MI.root (by simp)) (nx_hlm1_mo) (Nat.le_refl _)) MIL.nil)
      have hz6 := hs8_4.size
      rw [mput_new hgs] at mo
      refine LR.nil ?_
      refine hK14 _ _ ?_
      refine CW.region ?_
      refine LR.v (Y.move rfl rfl) (Wd.u rfl) rfl rfl ?_
      refine LR.v (Y.move rfl rfl) (Wd.u rfl) rfl rfl ?_
      refine LR.v (Y.loadN vi.pt rfl Try.isAgg30 Try.sizeOf30 (fA_len _) rfl) (Wd.u rfl) rfl rfl ?_
      refine LR.v (Y.lookupA hc.mo keyId rfl Try.runUnderlying69 Try.zeroValue28 rfl rfl) (Wd.u rfl) rfl rfl ?_
      refine LR.z (Z.apnd ow (hc.row x) rfl inf28 rfl rfl (by first | omega | (simp; omega)) (by first | omega | (simp; omega))) (Wd.u rfl) rfl rfl (fun v43 H43 r43 => ?_)
      obtain ⟨k43, ow43, hk43, hs43⟩ := r43
      replace hk43 : Nx kr H8_4.size k43 := hk43
      replace hs43 := hs43.md
      have df19 := DF.app (df8) (bf_hc.mono hm0.size) hk43
      have df20 := DF.app (df9) (bf_hl.mono hm0.size) hk43
      have dj21 : Dj (H0.size + 1) k43 := Dj.app (dj11) mo.lt hk43
      have dj22 : Dj (HL1.size + 1) k43 := Dj.app (dj15.symm) vi.lt hk43
      have nx23 : Nx 0 H0.size k43 := Nx.tr (nx10) hk43 hm0.size
      have nx24 : Nx k12 H12.size k43 := Nx.tr (nx12) hk43 hlm1.size
      replace hc := hc.upL hs43 (DFL.cons df8 DFL.nil)
      replace hl := hl.upL hs43 (DFL.cons df9 DFL.nil)
      replace mo := mo.upL hs43 (DL.cons dj11 DL.nil)
      replace vi := vi.upL hs43 (DL.cons dj15.symm DL.nil)
      replace hm0 := (Mo.trL (ks := []) (hm0.mdn []) hs43 (MIL.cons (MI.app MI.z (nx10) (Nat.le_refl _)) MIL.nil)).nil
      replace hlm1 := hlm1.trL hs43 (MIL.cons (MI.app (MI.root (by simp)) (nx12) (Nat.le_refl _)) MIL.nil)
      have hz7 := hs43.size
      have hle_ow43 := ow43.le
      obtain ⟨s43, rfl⟩ : ∃ s : SV, v43 = s.v := ⟨toSV v43, ow43.sv.symm⟩
      refine LR.v (Y.assign rfl rfl) (Wd.u rfl) rfl rfl ?_
      refine LR.nil ?_
      refine hK9 _ _ ?_
      have hI2 := hI.next hxk (hco.clo x)
      have hl2 := hI2.len
      rw [List.length_append, List.length_map, List.length_map, List.length_singleton] at hl2
      refine QN.sub (hN6 (mm ++ [(x, (mm.length : Int))], s43, k43, r0 ++ pa x) _ ?_ ?_) ⟨rfl, rfl, rfl, trivial⟩
      · exact ⟨mo, ow43, by rw [List.map_append]; exact hI2, by simp; omega, nx24, dj21, hlm1⟩
      · simp <;> omega
    ·
      refine CW.skip ?_
      refine hK9 _ _ ?_
      refine QN.sub (hN6 (mm, s26, kr, r0) _ ?_ ?_) ⟨rfl, rfl, rfl, trivial⟩
      · exact ⟨mo, ow, hI.skip (isSome_iff_key.1 (by simpa using c34)), by omega, nx12, dj11, hlm1⟩
      · simp <;> omega
  ·
    obtain rfl : row = [] := List.eq_nil_of_length_eq_zero (by omega)
    refine CW.exit (hE7 (.exit 0) nofun _ _ (hE6 (.exit 0) nofun _ _ (hX5 _ _ ?_)))
    refine hK4 _ _ ?_
    refine CW.seq (fun K15 hK15 hE15 => ?_)
    refine CW.region ?_
    refine LR.v (Y.move rfl rfl) (Wd.u rfl) rfl rfl ?_
    refine LR.v (Y.assign rfl rfl) (Wd.u rfl) rfl rfl ?_
    refine LR.nil ?_
    refine hK15 _ _ ?_
    refine CW.ret (hret .ret (.inr rfl) _ _ _ (res1 rfl rfl) ?_)
    exact ⟨H0.size, mm, rfl, mo, .inr (.inr (by omega)), hI.done, hm0⟩

end Go.Proofs.Ytepdhokpfecdnaa.GraD
/-
  Rows of names sorted, searched, and one put in.
-/
namespace Go.Proofs.Ytepdhokpfecdnaa.GraE
open Go.Proofs.Ytepdhokpfecdnaa.E Go.RowKit Go.Proofs.Ytepdhokpfecdnaa.GraA Go.Proofs.Ytepdhokpfecdnaa.GraB Go.Proofs.Ytepdhokpfecdnaa.GraC Go.Proofs.Ytepdhokpfecdnaa.GraD
set_option maxRecDepth 20000
set_option linter.unusedVariables false
set_option linter.unusedSimpArgs false
set_option linter.unusedSectionVars false
set_option maxRecDepth 100000 in
theorem inf28 : Inf Try.prog 28 30 32 32 := ⟨Try.underlying28, _, _, rfl, rfl, rfl, rfl, rfl⟩

section
variable {P : Program} {w0 : World} {n : Nat} {l : FL} {H : Heap} {o : Oper}
/-- a copy of elements of sz cells, from a place whose cells are known (the same block, too) -/
theorem Z.copyQ {d x : Operand} {t t2 e e' : TypeId} {b off dlen dcap slen scap sz k : Nat} {cs ys : List Value} {ad : Addr} (hv : Var e H b cs) (hp : ∀ w, At w0 H w → ∀ j v, ys[j]? = some v → w.cell? (ad.add j) = some v) (hy : ys.length = k * sz) (ho1 : ∀ u ∈ ys, u.oneCell' = true) (ho : o.op = .call { callee := .builtin .copy, args := #[d, x], argTypes := #[t, t2] })
    (ht : P.underlying t = some (.slice e')) (hs : ∀ w, (sizeOf e').run P w = .ok sz w) (hd : opv l d = some (.slice (some ⟨b, off, none⟩) dlen dcap)) (hx : opv l x = some (.slice (some ad) slen scap)) (hk : k = min slen dlen) (hfit : off + k * sz ≤ cs.length) :
    Z P w0 n l H o (fun r H' => r = .int .i64 k ∧ Var e H' b (splice cs off ys) ∧ Mo (fun g => g = b) H H') := by
  intro a w hf ha
  obtain ⟨fz, hb1, hb2⟩ := id hv.row
  have hkk : Nat.min slen dlen = k := hk.symm
  have hfc : (Builtin.firstCells sz k (.slice (some ad) slen scap)).run P w = .ok ys.toArray w :=
    run_firstCells_some (P := P) w sz k ad slen scap _ hy (fun j v hj => hp w ha j v hj)
  have hst := run_storeCells_soft P b off e fz ys 0 cs.toArray w (by rw [ha.heap]; exact hb1) hb2 (by simp; omega) ho1
  simp only [Nat.add_zero] at hst
  refine ⟨_, _, w.setRow b (splice cs off ys).toArray, ?_, ha.row _ _, rfl, ⟨setRow_row ha hv.row (by simp [splice]; omega)⟩, setRow_mo ha _ _⟩
  simp [execOp, ho, hf.eval hd, hf.eval hx, resolve, invoke, builtin, Builtin.copy_, run_underlying ht, Builtin.lenOf, hs, hkk, hfc, hst, splice, goInt]
theorem zeroCells_rep {z : Value} {α : Type} {f : α → List Value} {z0 : α} (h : z.cells.toList = f z0) : ∀ m, (Builtin.zeroCells z.cells m).toList = (List.replicate m z0).flatMap f := by
  have hl : (f z0).length = z.cells.size := by rw [← h, Array.length_toList]
  have e0 : ∀ m, (Builtin.zeroCells z.cells m).toList = (List.range (m * z.cells.size)).map (fun i => z.cells[i % z.cells.size]!) := fun m => by
    unfold Builtin.zeroCells
    rw [Array.toList_map, Array.toList_range]
  have e1 : (List.range z.cells.size).map (fun i => z.cells[i % z.cells.size]!) = f z0 := by
    rw [← h]
    apply List.ext_getElem
    · simp
    · intro j h1 h2
      have hj : j < z.cells.size := by simpa using h1
      simp [Nat.mod_eq_of_lt hj, getElem!_pos z.cells j hj]
  intro m
  rw [e0]
  induction m with
  | zero => simp
  | succ m ih =>
    rw [Nat.succ_mul, Nat.add_comm, List.range_add, List.map_append, List.map_map, e1, List.replicate_succ, List.flatMap_cons, ← ih]
    congr 1
    apply List.map_congr_left
    intro j _
    simp
/-- made elements put behind a row that has no room: a new row -/
theorem Z.apndz {α : Type} {F : Nat → Prop} {f : α → List Value} {s x : Operand} {t tn e : TypeId} {kn kq : IntKind} {ad : Addr} {c m sz bytes : Nat} {i : TypeInfo} {z : Value} {xs : List α} (z0 : α) (hc : ∀ x, (f x).length = sz) (h1 : ∀ x, ∀ u ∈ f x, u.oneCell' = true) (hr : Rd F H f sz (.slice (some ad) xs.length c) xs)
    (ho : o.op = .call { callee := .builtin .append, args := #[s, x], argTypes := #[t, tn] }) (ht : P.underlying t = some (.slice e)) (htn : P.underlying tn = some (.int kn)) (hi : P.info? e = some i) (hz : i.zero = some z) (hsz : i.size = sz) (hby : i.bytes = bytes) (hz0 : z.cells.toList = f z0) (hs0 : 0 < sz) (hm0 : 0 < m)
    (hs : opv l s = some (.slice (some ad) xs.length c)) (hx : opv l x = some (.int kq m)) (hg : c < xs.length + m) (hb : (xs.length + m) * bytes ≤ 140737488355328) (hm : xs.length + m ≤ 9223372036854775807) :
    Z P w0 n l H o (fun r H' => Ow (H.size + 1) e H' f sz r (xs ++ List.replicate m z0) ∧ Nw H H' ∧ ∃ ob, H' = H.push ob) := by
  subst hsz
  subst hby
  intro a w hf ha
  have holds := hr.pts hc rfl ha
  have hold : (Builtin.firstCells i.size xs.length (.slice (some ad) xs.length c)).run P w.drew = .ok (xs.flatMap f).toArray w.drew :=
    run_firstCells_some (P := P) w.drew i.size xs.length ad xs.length c _ (length_flatMap hc xs) (fun j v hj => by simpa using holds j v hj)
  have hrun := Lib.run_append_grow_zeros (P := P) w t tn o.type e i z kq kn ht htn hi hz (some ad) xs.length c (xs.flatMap f) hold m hm0 hs0 hg (by omega) (by
    have : m * i.bytes ≤ (xs.length + m) * i.bytes := Nat.mul_le_mul_right _ (by omega)
    omega) (growslice_fits hg hb)
  have ha2 : At w0 H w.drew := ha.drew
  have hge := grownCap_ge w (xs.length + m) c e
  have hcm : grownCap w (xs.length + m) c e ≤ maxLen := grownCap_le_maxLen w (xs.length + m) c e (by unfold maxLen; omega)
  have hzs : z.cells.size = i.size := by rw [← Array.length_toList, hz0, hc]
  have hnew := Own.new (e := e) (G' := fun b => b + 1 = H.size + 1) (w := w.drew) (z := z) (cap := grownCap w (xs.length + m) c e) (zs := xs ++ List.replicate m z0) hc h1 hzs (by rw [ha2.heap]) (by simpa using hge) hcm
  have hcells : (xs.flatMap f).toArray ++ Builtin.zeroCells z.cells m = ((xs ++ List.replicate m z0).flatMap f).toArray := by
    apply Array.ext'
    rw [Array.toList_append, zeroCells_rep hz0, List.flatMap_append]
  have hsize : w.heap.size = H.size := by rw [ha.heap]
  refine ⟨.slice (some ⟨w.heap.size, 0, none⟩) (xs.length + m) (grownCap w (xs.length + m) c e), _, w.drew.alloc (.cells ((xs.flatMap f).toArray ++ Builtin.zeroCells z.cells m ++ Builtin.zeroCells z.cells (grownCap w (xs.length + m) c e - (xs.length + m))) e), ?_, ⟨rfl, ha.os, ha.tape, ha.output, ha2.dr⟩, ⟨?_, ?_⟩, ?_, ?_⟩
  · simp [execOp, ho, resolve, invoke, builtin, hf.eval hs, hf.eval hx, hrun, hsize]
  · rw [hcells]
    simpa [hsize] using hnew
  · rw [(ha2.alloc _).heap]; simp
  · rw [(ha2.alloc _).heap]; exact Mo.push _ _ _
  · exact ⟨_, (ha2.alloc _).heap⟩
/-- a slice of a slice, as a value -/
theorem Y.sliceV {x : Operand} {lo hi : Option Operand} {t e : TypeId} {a : Option Addr} {len cap sz : Nat} (i j : Nat) (ho : o.op = .slice t x lo hi none) (ht : ∀ w, (underlying t).run P w = .ok (.slice e) w) (hs : ∀ w, (sizeOf e).run P w = .ok sz w) (hx : opv l x = some (.slice a len cap))
    (hlo : lo = none ∧ i = 0 ∨ ∃ p k iv, lo = some p ∧ opv l p = some (.int k iv) ∧ iv = (i : Int)) (hhi : hi = none ∧ j = len ∨ ∃ p k iv, hi = some p ∧ opv l p = some (.int k iv) ∧ iv = (j : Int)) (hij : i ≤ j) (hj : j ≤ cap) :
    Y P w0 n l H o (.slice (if cap = i then a else a.map (·.add (i * sz))) (j - i) (cap - i)) := by
  intro ac w hf ha
  have e1 : ∀ w, (Instr.sliceBounds true len cap (lo.map ac.eval) (hi.map ac.eval) none).run P w = .ok (i, j, cap) w := by
    intro w
    rcases hlo with ⟨rfl, rfl⟩ | ⟨p, k, iv, rfl, h1, rfl⟩ <;> rcases hhi with ⟨rfl, rfl⟩ | ⟨p2, k2, iv2, rfl, h3, rfl⟩ <;>
      simp [Instr.sliceBounds, Instr.sliceBound, asIntOf, hf.eval, *]
  have hu : ∀ w, (underlying t).run P w = .ok (.slice e) w := ht
  simp [execOp, ho, hf.eval hx, Instr.sliceAt, Instr.slice, hu, hs, e1]
/-- room -/
theorem Y.capV {x : Operand} {t e : TypeId} {a : Option Addr} {len cap : Nat} (ho : o.op = .call { callee := .builtin .cap, args := #[x], argTypes := #[t] }) (ht : ∀ w, (underlying t).run P w = .ok (.slice e) w) (hx : opv l x = some (.slice a len cap)) : Y P w0 n l H o (.int .i64 cap) := by
  intro ac w hf ha
  simp [execOp, ho, hf.eval hx, resolve, invoke, builtin, Builtin.cap_, ht, goInt]
/-- an owned row's cells -/
theorem Ow.view {α : Type} {k : Nat} {e : TypeId} {f : α → List Value} {sz : Nat} {v : Value} {xs : List α} (h : Ow k e H f sz v xs) (hne : xs ≠ []) : ∃ g cap cs, v = .slice (some ⟨g, 0, none⟩) xs.length cap ∧ k = g + 1 ∧ Var e H g cs ∧ xs.length ≤ cap ∧ cap ≤ maxLen ∧ cs.length = cap * sz ∧ cs.take (xs.length * sz) = xs.flatMap f := by
  rcases h.own.ex with ⟨_, hx⟩ | ⟨g, cap, cur, hv, hg, hr, h1, h2, h3, h4⟩
  · exact absurd hx hne
  · exact ⟨g, cap, cur.toList, hv, hg.symm, ⟨hr⟩, h1, h2, by rw [Array.length_toList]; exact h3, h4⟩
theorem Ow.back {α : Type} {g : Nat} {e : TypeId} {f : α → List Value} {sz cap : Nat} {cs : List Value} {xs : List α} (hc : ∀ x, (f x).length = sz) (h1 : ∀ x, ∀ u ∈ f x, u.oneCell' = true) (hv : Var e H g cs) (hl : xs.length ≤ cap) (hm : cap ≤ maxLen) (hs : cs.length = cap * sz) (ht : cs.take (xs.length * sz) = xs.flatMap f) : Ow (g + 1) e H f sz (.slice (some ⟨g, 0, none⟩) xs.length cap) xs :=
  ⟨⟨hc, h1, .inr ⟨g, cap, cs.toArray, rfl, rfl, hv.row, hl, hm, by simpa using hs, by simpa using ht⟩⟩, hv.lt⟩
end
theorem spl_mid {α : Type} {f : α → List Value} {sz : Nat} (hc : ∀ x, (f x).length = sz) {cs : List Value} {xs ys : List α} {i : Nat} (h : cs.take (xs.length * sz) = xs.flatMap f) (hl : cs.length ≥ xs.length * sz) (hi : i + ys.length ≤ xs.length) : (splice cs (i * sz) (ys.flatMap f)).take (xs.length * sz) = (xs.take i ++ ys ++ xs.drop (i + ys.length)).flatMap f := by
  have hy := length_flatMap hc ys
  have hm : (i + ys.length) * sz ≤ xs.length * sz := Nat.mul_le_mul_right _ hi
  have hm2 : (i + ys.length) * sz = i * sz + ys.length * sz := Nat.add_mul _ _ _
  have hA : cs.take (i * sz) = (xs.take i).flatMap f := by
    have := congrArg (List.take (i * sz)) h
    rw [List.take_take, Nat.min_eq_left (by omega)] at this
    rw [this]
    conv => lhs; rw [← List.take_append_drop i xs, List.flatMap_append]
    rw [List.take_left' (by rw [length_flatMap hc, List.length_take, Nat.min_eq_left (by omega)])]
  have hD : (cs.take (xs.length * sz)).drop ((i + ys.length) * sz) = (xs.drop (i + ys.length)).flatMap f := by
    rw [h]
    conv => lhs; rw [← List.take_append_drop (i + ys.length) xs, List.flatMap_append]
    rw [List.drop_left' (by rw [length_flatMap hc, List.length_take, Nat.min_eq_left (by omega)])]
  have h1 : ((xs.take i ++ ys).flatMap f).length = (i + ys.length) * sz := by
    rw [length_flatMap hc, List.length_append, List.length_take, Nat.min_eq_left (by omega)]
  rw [splice, hA, ← List.flatMap_append, hy, ← hm2, List.flatMap_append (xs := xs.take i ++ ys), ← hD, List.take_append, h1, List.take_of_length_le (by rw [h1]; exact hm), List.drop_take]
section
variable {P : Program} {w0 : World} {n : Nat} {l : FL} {H : Heap} {o : Oper}
/-- a copy into an owned row, at element i -/
theorem Z.copyO {α : Type} {F : Nat → Prop} {f : α → List Value} {d x : Operand} {t t2 e e' : TypeId} {g i dlen dcap cap sz k : Nat} {ad : Addr} {scap : Nat} {v : Value} {xs ys : List α} (h : Ow k e H f sz v xs) (hve : v = .slice (some ⟨g, 0, none⟩) xs.length cap) (hr : Rd F H f sz (.slice (some ad) ys.length scap) ys) (hne : xs ≠ [])
    (ho : o.op = .call { callee := .builtin .copy, args := #[d, x], argTypes := #[t, t2] })
    (ht : P.underlying t = some (.slice e')) (hs : ∀ w, (sizeOf e').run P w = .ok sz w) (hd : opv l d = some (.slice (some ⟨g, i * sz, none⟩) dlen dcap)) (hx : opv l x = some (.slice (some ad) ys.length scap)) (hk : ys.length ≤ dlen) (hfit : i + ys.length ≤ xs.length) (hy0 : ys ≠ []) :
    Z P w0 n l H o (fun r H' => r = .int .i64 ys.length ∧ Ow k e H' f sz v (xs.take i ++ ys ++ xs.drop (i + ys.length)) ∧ Mo (fun b => b + 1 = k) H H') := by
  obtain ⟨g2, cap2, cs, hv2, hk2, hcs, h1, h2, h3, h4⟩ := Ow.view h hne
  rw [hve] at hv2
  simp only [Value.slice.injEq, Option.some.injEq, Addr.mk.injEq, true_and, and_true] at hv2
  obtain ⟨rfl, rfl⟩ := hv2
  have hc := h.own.cells
  have hlen := length_flatMap hc ys
  have hsz : (i + ys.length) * sz ≤ xs.length * sz := Nat.mul_le_mul_right _ hfit
  have hsz2 : xs.length * sz ≤ cap * sz := Nat.mul_le_mul_right _ h1
  rw [Nat.add_mul] at hsz
  refine (Z.copyQ hcs (fun w ha => hr.pts hc rfl ha) hlen (fun u hu => by obtain ⟨y, _, hu⟩ := List.mem_flatMap.1 hu; exact h.own.one y u hu) ho ht hs hd hx (by omega) (by omega)).mono ?_
  rintro r H' ⟨hr', hv', hm⟩
  have hlx : (xs.take i ++ ys ++ xs.drop (i + ys.length)).length = xs.length := by simp; omega
  refine ⟨hr', ?_, ?_⟩
  · rw [hk2, hve, ← hlx]
    refine Ow.back hc h.own.one hv' (by omega) h2 ?_ ?_
    · rw [splice_length (by omega), h3]
    · rw [hlx]; exact spl_mid hc h4 (by omega) hfit
  · exact hm.weaken (fun b _ e => by rw [hk2, e])
/-- the elements from i on moved up by one, in place -/
theorem Z.copyUp {k : Nat} {α : Type} {f : α → List Value} {d x : Operand} {t t2 e e' : TypeId} {g i dlen dcap slen scap cap sz : Nat} {v : Value} {xs : List α} (h : Ow k e H f sz v xs) (hve : v = .slice (some ⟨g, 0, none⟩) xs.length cap) (hi : i < xs.length) (hcap : xs.length < cap)
    (ho : o.op = .call { callee := .builtin .copy, args := #[d, x], argTypes := #[t, t2] })
    (ht : P.underlying t = some (.slice e')) (hs : ∀ w, (sizeOf e').run P w = .ok sz w) (hd : opv l d = some (.slice (some ⟨g, (i + 1) * sz, none⟩) dlen dcap)) (hx : opv l x = some (.slice (some ⟨g, i * sz, none⟩) slen scap)) (hk : xs.length - i = min slen dlen) :
    Z P w0 n l H o (fun r H' => r = .int .i64 (xs.length - i : Nat) ∧ Ow k e H' f sz (.slice (some ⟨g, 0, none⟩) (xs.length + 1) cap) (xs.take (i + 1) ++ xs.drop i) ∧ Mo (fun b => b + 1 = k) H H') := by
  have hne : xs ≠ [] := by intro e; rw [e] at hi; simp at hi
  obtain ⟨g2, cap2, cs, hv2, hk2, hcs, h1, h2, h3, h4⟩ := Ow.view h hne
  rw [hve] at hv2
  simp only [Value.slice.injEq, Option.some.injEq, Addr.mk.injEq, true_and, and_true] at hv2
  obtain ⟨rfl, rfl⟩ := hv2
  have hc := h.own.cells
  have hld : (xs.drop i).length = xs.length - i := List.length_drop
  have hlen : ((xs.drop i).flatMap f).length = (xs.length - i) * sz := by rw [length_flatMap hc, hld]
  have m1 : i * sz + (xs.length - i) * sz = xs.length * sz := by rw [← Nat.add_mul]; congr 1; omega
  have m2 : (i + 1) * sz + (xs.length - i) * sz = (xs.length + 1) * sz := by rw [← Nat.add_mul]; congr 1; omega
  have m3 : (xs.length + 1) * sz ≤ cap * sz := Nat.mul_le_mul_right _ hcap
  have m4 : (i + 1) * sz ≤ xs.length * sz := Nat.mul_le_mul_right _ hi
  have tk : ∀ j, j ≤ xs.length → cs.take (j * sz) = (xs.take j).flatMap f := fun j hj => by
    have hm : j * sz ≤ xs.length * sz := Nat.mul_le_mul_right _ hj
    have := congrArg (List.take (j * sz)) h4
    rw [List.take_take, Nat.min_eq_left hm] at this
    rw [this]
    conv => lhs; rw [← List.take_append_drop j xs, List.flatMap_append]
    rw [List.take_left' (by rw [length_flatMap hc, List.length_take, Nat.min_eq_left hj])]
  have hsrc : (cs.take (xs.length * sz)).drop (i * sz) = (xs.drop i).flatMap f := by
    rw [h4]
    conv => lhs; rw [← List.take_append_drop i xs, List.flatMap_append]
    rw [List.drop_left' (by rw [length_flatMap hc, List.length_take, Nat.min_eq_left (by omega)])]
  have hpt : Pt H ⟨g, i * sz, none⟩ ((xs.drop i).flatMap f) := by
    have := (hcs.pt.take (xs.length * sz)).drop (i * sz)
    rw [hsrc, add_eq rfl] at this
    simpa using this
  refine (Z.copyQ (k := xs.length - i) (sz := sz) hcs (fun w ha j v hj => by rw [ha.cell, add_eq hpt.spot]; exact hpt.cells j v hj) hlen (fun u hu => by obtain ⟨y, _, hu⟩ := List.mem_flatMap.1 hu; exact h.own.one y u hu) ho ht hs hd hx hk (by omega)).mono ?_
  rintro r H' ⟨hr', hv', hm⟩
  have hlx : (xs.take (i + 1) ++ xs.drop i).length = xs.length + 1 := by simp; omega
  refine ⟨hr', ?_, hm.weaken (fun b _ e => by rw [hk2, e])⟩
  rw [hk2, ← hlx]
  refine Ow.back hc h.own.one hv' (by omega) h2 ?_ ?_
  · rw [splice_length (by omega), h3]
  · rw [hlx, splice, tk (i + 1) (by omega), ← List.flatMap_append, List.take_left' (by rw [length_flatMap hc, hlx])]
/-- the front, as a value -/
theorem Y.sl0 {x : Operand} {hi : Option Operand} {t e : TypeId} {g len cap sz : Nat} (j : Nat) (ho : o.op = .slice t x none hi none) (ht : ∀ w, (underlying t).run P w = .ok (.slice e) w) (hs : ∀ w, (sizeOf e).run P w = .ok sz w) (hx : opv l x = some (.slice (some ⟨g, 0, none⟩) len cap))
    (hhi : hi = none ∧ j = len ∨ ∃ p k iv, hi = some p ∧ opv l p = some (.int k iv) ∧ iv = (j : Int)) (hj : j ≤ cap) : Y P w0 n l H o (.slice (some ⟨g, 0, none⟩) j cap) := by
  have := Y.sliceV (P := P) (w0 := w0) (n := n) (H := H) 0 j ho ht hs hx (.inl ⟨rfl, rfl⟩) hhi (Nat.zero_le _) hj
  simpa [add_eq] using this
/-- what stays behind the front, as a value -/
theorem Y.sl1 {x p : Operand} {t e : TypeId} {g len cap sz : Nat} {k : IntKind} {iv : Int} (i : Nat) (ho : o.op = .slice t x (some p) none none) (ht : ∀ w, (underlying t).run P w = .ok (.slice e) w) (hs : ∀ w, (sizeOf e).run P w = .ok sz w) (hx : opv l x = some (.slice (some ⟨g, 0, none⟩) len cap))
    (hlo : opv l p = some (.int k iv)) (hiv : iv = (i : Int)) (hi : i ≤ len) (hc : i < cap) (hl : len ≤ cap) : Y P w0 n l H o (.slice (some ⟨g, i * sz, none⟩) (len - i) (cap - i)) := by
  have := Y.sliceV (P := P) (w0 := w0) (n := n) (H := H) i len ho ht hs hx (.inr ⟨_, _, _, rfl, hlo, hiv⟩) (.inl ⟨rfl, rfl⟩) hi hl
  rw [if_neg (by omega)] at this
  simpa [add_eq] using this
end


def Mz : Ide := Zid
theorem ins_end {l : List Ide} {x : Ide} {i : Nat} (h : i = l.length) : l ++ [x] = l.take i ++ x :: l.drop i := by subst h; simp
theorem ins_grow {l : List Ide} {x : Ide} {i n : Nat} (hi : i < l.length) (hn : n = l.length + 1 - i) :
    ((l.take i ++ List.replicate n Mz).take i ++ [x] ++ (l.take i ++ List.replicate n Mz).drop (i + 1)).take (i + 1) ++ l.drop i ++ ((l.take i ++ List.replicate n Mz).take i ++ [x] ++ (l.take i ++ List.replicate n Mz).drop (i + 1)).drop (i + 1 + (l.drop i).length) = l.take i ++ x :: l.drop i := by
  have h1 : (l.take i).length = i := by rw [List.length_take]; omega
  have h2 : (l.take i ++ [x]).length = i + 1 := by simp [h1]
  have e1 : (l.take i ++ List.replicate n Mz).take i = l.take i := List.take_left' h1
  rw [e1, List.take_left' h2]
  have e2 : (l.take i ++ [x] ++ (l.take i ++ List.replicate n Mz).drop (i + 1)).drop (i + 1 + (l.drop i).length) = [] := List.drop_eq_nil_of_le (by simp [h1]; omega)
  rw [e2]; simp
theorem ins_up {l : List Ide} {x : Ide} {i : Nat} (hi : i < l.length) : (l.take (i + 1) ++ l.drop i).take i ++ [x] ++ (l.take (i + 1) ++ l.drop i).drop (i + 1) = l.take i ++ x :: l.drop i := by
  have h1 : (l.take (i + 1)).length = i + 1 := by rw [List.length_take]; omega
  rw [List.drop_left' h1, List.take_append_of_le_length (by omega), List.take_take, Nat.min_eq_left (by omega)]; simp
theorem rd_take {F : Nat → Prop} {H : Heap} {l : List Ide} {g cap i : Nat} (h : Rd F H fA 32 (.slice (some ⟨g, 0, none⟩) l.length cap) l) : Rd F H fA 32 (.slice (some ⟨g, 0, none⟩) (l.take i).length cap) (l.take i) := by
  obtain ⟨a, c, e, h1, h2, h3⟩ := h.ex
  cases e
  refine ⟨_, _, rfl, by rw [List.length_take]; omega, h2, fun hne => ?_⟩
  obtain ⟨ad, e1, e2, e3, e4, e5⟩ := h3 (by intro e; subst e; simp at hne)
  exact ⟨ad, e1, e2, e3, e4, fun j x hx => e5 j x (by rw [List.getElem?_take] at hx; split at hx; exact hx; cases hx)⟩
theorem rd_drop {F : Nat → Prop} {H : Heap} {l : List Ide} {g cap i : Nat} (h : Rd F H fA 32 (.slice (some ⟨g, 0, none⟩) l.length cap) l) : Rd F H fA 32 (.slice (some ⟨g, i * 32, none⟩) (l.drop i).length (cap - i)) (l.drop i) := by
  obtain ⟨a, c, e, h1, h2, h3⟩ := h.ex
  cases e
  refine ⟨_, _, rfl, by rw [List.length_drop]; omega, by omega, fun hne => ?_⟩
  obtain ⟨ad, e1, e2, e3, e4, e5⟩ := h3 (by intro e; subst e; simp at hne)
  cases e1
  refine ⟨_, rfl, rfl, e3, e4, fun j x hx => ?_⟩
  rw [List.getElem?_drop] at hx
  have := e5 (i + j) x hx
  simpa [Nat.add_mul] using this
section
variable {P : Program} {w0 : World} {n : Nat} {l : FL} {H : Heap} {o : Oper}
/-- rows of unlike blocks share nothing -/
theorem Y.overlaps {f : FuncId} {fn : Func} {args : List Operand} {ats : Array TypeId} {tS tR e : TypeId} {g gx lx cx off lb cb sz : Nat} {cs : List Value} {csx : Array Value} (hx : H[gx]? = some (.cells csx e (0, 0))) (hv : Var e H g cs) (hne : gx ≠ g) (hcs : cs.length ≠ 0)
    (ho : o.op = .call { callee := .value (.func f), args := args.toArray, argTypes := ats }) (hf : P.funcs[f]? = some fn) (hname : (fn.name == "runtime.NumGoroutine") = false) (hb : fn.body.isNone = true) (hn : Extern.findNext fn = none) (he : Extern.find fn = some (Extern.SlicesOverlaps.overlaps #[tS, tS] #[tR]))
    (ht : P.underlying tS = some (.slice e)) (hs : ∀ w, (sizeOf e).run P w = .ok sz w) (ha : opvs l args = some [.slice (some ⟨gx, 0, none⟩) lx cx, .slice (some ⟨g, off, none⟩) lb cb]) : Y P w0 n l H o (.bool false) := by
  refine Y.ext ho hf hname hb hn he ha (fun w hw => ?_)
  obtain ⟨fz, h1, _⟩ := hv.row
  refine Lib.run_overlaps_apart w tS tR e ht sz hs ⟨gx, 0, none⟩ ⟨g, off, none⟩ lx cx lb cb hne e e csx.size cs.toArray.size ?_ ?_ (by simpa using hcs) ?_ ?_
  · simp [World.shape?, hw.heap, hx]
  · simp [World.shape?, hw.heap, h1]
  · simp [World.frozen?, hw.heap, hx]
  · simp [World.frozen?, hw.heap, hx]
end

section
variable {α : Type} {P : Program} {w0 : World} {n : Nat} {l : FL} {H : Heap} {o : Oper} {e : TypeId} {f : α → List Value} {sz : Nat}
theorem Z.lit0 {t : TypeId} {k bytes : Nat} {parts : List (Nat × Operand)} (vs : List Value) (zs : List α) (ho : o.op = .buildSlice t k parts.toArray) (hinf : Inf P t e sz bytes) (hp : opvs l (parts.map (·.2)) = some vs) (hi : parts.map (·.1) = List.range k) (hk : vs.length = k) (hks : k * sz ≤ 16777216) (hk16 : k ≤ 16777216)
    (hc : ∀ x, (f x).length = sz) (h1 : ∀ x, ∀ u ∈ f x, u.oneCell' = true) (hz : vs.map (fun v => v.cells.toList) = zs.map f) :
    Z P w0 n l H o (fun r H' => Own (fun b => b = H.size) e H' f sz r zs ∧ Nw H H' ∧ ∃ c : Array Value, H' = H.push (.cells c e (0, 0))) := by
  obtain ⟨ht, i, z, hi', hz', hsz, hby, hzs⟩ := hinf
  subst hsz
  intro a w hf ha
  have hev := hf.evals hp
  have hzl : zs.length = k := by have := congrArg List.length hz; simpa [hk] using this.symm
  have hparts : (parts.toArray.map (fun (x : Nat × Operand) => (x.1, a.eval x.2))).toList = (vs.zipIdx 0).map (fun p => (p.2, p.1)) := by
    have e1 : parts.map (fun (x : Nat × Operand) => (x.1, a.eval x.2)) = (List.range k).zip vs := by
      rw [← hi, ← hev, List.map_map]
      clear hi hev hp ho
      induction parts with
      | nil => rfl
      | cons p ps ih => simp [ih]
    rw [List.map_toArray]
    simp only
    rw [e1, List.zipIdx_eq_zip_range', map_zip_swap_range hk]
  have hcells : ∀ v ∈ vs, v.cells.size = i.size := by
    intro v hv
    have : v.cells.toList ∈ zs.map f := by rw [← hz]; exact List.mem_map.2 ⟨v, hv, rfl⟩
    obtain ⟨x, _, hx⟩ := List.mem_map.1 this
    have := hc x
    rw [hx] at this
    simpa using this
  have hfl : vs.flatMap (fun v => v.cells.toList) = zs.flatMap f := by rw [List.flatMap_def, List.flatMap_def, hz]
  have hbase : ∀ (zc : Array Value), ((Array.range (k * i.size)).map (zc[· % zc.size]!)).toList = [] ++ ((Array.range (k * i.size)).map (zc[· % zc.size]!)).toList := fun _ => rfl
  have hrun : ∃ cs : Array Value, cs.toList = zs.flatMap f ∧ (Instr.buildSlice t k (parts.toArray.map (fun (x : Nat × Operand) => (x.1, a.eval x.2)))).run P w = .ok (.slice (some ⟨w.heap.size, 0, none⟩) k k) (w.alloc (.cells cs e)) := by
    by_cases h0 : k * i.size = 0
    · obtain ⟨r, hr, hrl⟩ := fill_row i.size vs 0 #[] [] [] rfl (by simp) (by simp [hk, h0]) hcells
      refine ⟨r, by rw [hrl, hfl]; rfl, ?_⟩
      simp only [Instr.buildSlice, Sem.run_bind, run_underlying ht, Result.andThen_ok, sizeOf, typeInfo, run_program, hi', Sem.run_pure, hparts]
      have hz0 : ∀ g : Nat → Value, (Array.range 0).map g = #[] := fun g => by simp
      simp [h0, hz0, hr, newRow]
    · obtain ⟨r, hr, hrl⟩ := fill_row i.size vs 0 ((Array.range (k * i.size)).map (z.cells[· % z.cells.size]!)) [] _ (hbase _) (by simp) (by simp [hk]) hcells
      refine ⟨r, by rw [hrl, hfl]; rfl, ?_⟩
      simp only [Instr.buildSlice, Sem.run_bind, run_underlying ht, Result.andThen_ok, sizeOf, typeInfo, run_program, hi', Sem.run_pure, hparts]
      have hlim : ¬ (k * i.size > 2 ^ 24) := by simp only [Nat.reducePow]; omega
      simp [h0, hlim, zeroValue, typeInfo, hi', hz', hr, newRow]
  obtain ⟨cs, hcs, hrun⟩ := hrun
  refine ⟨.slice (some ⟨w.heap.size, 0, none⟩) k k, H.push (.cells cs e), w.alloc (.cells cs e), ?_, ha.alloc (.cells cs e), ⟨hc, h1, .inr ⟨H.size, k, cs, ?_, rfl, .of (by simp), ?_, ?_, ?_, ?_⟩⟩, Nw.pu _ _, _, rfl⟩
  · simp only [execOp, ho, Sem.run_bind, hrun, Result.andThen_ok, Sem.run_pure]
  · rw [hzl, ha.heap]
  · omega
  · unfold maxLen; omega
  · rw [← Array.length_toList, hcs, length_flatMap hc, hzl]
  · rw [← length_flatMap hc, List.take_of_length_le (by rw [← hcs]; exact Nat.le_refl _), hcs]
theorem Z.litz {t : TypeId} {k bytes : Nat} {parts : List (Nat × Operand)} (vs : List Value) (zs : List α) (ho : o.op = .buildSlice t k parts.toArray) (hinf : Inf P t e sz bytes) (hp : opvs l (parts.map (·.2)) = some vs) (hi : parts.map (·.1) = List.range k) (hk : vs.length = k) (hks : k * sz ≤ 16777216) (hk16 : k ≤ 16777216)
    (hc : ∀ x, (f x).length = sz) (h1 : ∀ x, ∀ u ∈ f x, u.oneCell' = true) (hz : vs.map (fun v => v.cells.toList) = zs.map f) :
    Z P w0 n l H o (fun r H' => Ow (H.size + 1) e H' f sz r zs ∧ Nw H H' ∧ ∃ c : Array Value, H' = H.push (.cells c e (0, 0))) :=
  (Z.lit0 vs zs ho hinf hp hi hk hks hk16 hc h1 hz).mono fun r H' ⟨h1, h2, c, h3⟩ => ⟨Ow.new (fun _ e => e) h1 h3, h2, c, h3⟩
end

set_option maxHeartbeats 4000000 in
theorem insert_ct (k kx : Nat) (v vx : Value) (l : List Ide) (x : Ide) (i : Nat) (w0 : World) (H0 : Heap)
    (ow : Ow k 30 H0 fA 32 v l) (ox : Ow kx 30 H0 fA 32 vx [x]) (dj : Dj k kx) (hil : i ≤ l.length) (hzx : ∃ c, H0[kx - 1]? = some (.cells c 30 (0, 0))) (hll : l.length ≤ 1048576) :
    Ct Try.prog w0 40 #[v, .int .i64 i, vx] H0 (fun r H2 => ∃ vr : Value, ∃ kr : Nat, r = vr ∧ (Ow kr 30 H2 fA 32 vr (l.take i ++ x :: l.drop i)) ∧ (Nx k H0.size kr) ∧ Mo (Ms [k]) H0 H2) := by
  refine Ct.enter (args := [v, .int .i64 i, vx]) Try.func40 rfl rfl rfl ?_
  intro Q0 hret
  have hm0 : Mo (Ms [k]) H0 H0 := Mo.refl _ _
  have nx_hm0_ow := Nx.refl k H0.size
  have hle_ow := ow.le
  have nx_hm0_ox := Nx.refl kx H0.size
  have hle_ox := ox.le
  have hlm := ow.len
  refine CW.seq (fun K1 hK1 hE1 => ?_)
  refine CW.region ?_
  refine LR.v (Y.assign rfl rfl) (Wd.u rfl) rfl rfl ?_
  refine LR.nil ?_
  refine hK1 _ _ ?_
  refine CW.seq (fun K2 hK2 hE2 => ?_)
  refine CW.region ?_
  refine LR.v (Y.move rfl rfl) (Wd.u rfl) rfl rfl ?_
  refine LR.v (Y.move rfl rfl) (Wd.u rfl) rfl rfl ?_
  refine LR.e (g := fun v => v) (Y.slice ow.rd (i) (l.length) rfl Try.runUnderlying28 Try.sizeOf30 rfl (.inr ⟨_, _, _, rfl, rfl, by first | rfl | omega⟩) (.inl ⟨rfl, rfl⟩) (by omega) (by omega)) (Wd.u rfl) rfl rfl (fun v12 rd12 => ?_)
  have bf_rd12 := BF.of ow.le
  refine LR.nil ?_
  refine hK2 _ _ ?_
  refine CW.seq (fun K3 hK3 hE3 => ?_)
  refine CW.region ?_
  refine LR.v (Y.move rfl rfl) (Wd.u rfl) rfl rfl ?_
  refine LR.v (Y.cast (v2 := .int .i64 1) (Y.len ox.rd rfl Try.runUnderlying28 rfl) (rfl)) (Wd.u rfl) rfl rfl ?_
  refine LR.v (Y.assign rfl rfl) (Wd.u rfl) rfl rfl ?_
  refine LR.nil ?_
  refine hK3 _ _ ?_
  refine CW.seq (fun K4 hK4 hE4 => ?_)
  refine CW.seq (fun K5 hK5 hE5 => ?_)
  refine CW.region ?_
  refine LR.v (Y.move rfl rfl) (Wd.u rfl) rfl rfl ?_
  refine LR.v ((Y.eql rfl rfl rfl).isF (fun h => by simp at h)) (Wd.u rfl) rfl rfl ?_
  refine LR.nil ?_
  refine hK5 _ _ ?_
  refine CW.cond_f rfl ?_
  refine CW.skip ?_
  refine hK4 _ _ ?_
  refine CW.seq (fun K6 hK6 hE6 => ?_)
  refine CW.region ?_
  refine LR.v (Y.move rfl rfl) (Wd.u rfl) rfl rfl ?_
  refine LR.v (Y.len ow.rd rfl Try.runUnderlying28 rfl) (Wd.u rfl) rfl rfl ?_
  refine LR.v (Y.assign rfl rfl) (Wd.u rfl) rfl rfl ?_
  refine LR.nil ?_
  refine hK6 _ _ ?_
  refine CW.seq (fun K7 hK7 hE7 => ?_)
  refine CW.seq (fun K8 hK8 hE8 => ?_)
  refine CW.region ?_
  refine LR.v (Y.move rfl rfl) (Wd.u rfl) rfl rfl ?_
  refine LR.v (Y.move rfl rfl) (Wd.u rfl) rfl rfl ?_
  refine LR.v (Y.eql rfl rfl rfl) (Wd.u rfl) rfl rfl ?_
  refine LR.nil ?_
  refine hK8 _ _ ?_
  refine CW.condp rfl (fun c22 => ?_) (fun c22 => ?_)
  ·
    refine CW.seq (fun K9 hK9 hE9 => ?_)
    refine CW.region ?_
    refine LR.v (Y.move rfl rfl) (Wd.u rfl) rfl rfl ?_
    refine LR.v (Y.move rfl rfl) (Wd.u rfl) rfl rfl ?_
    refine LR.z (Z.apnd ow ox.rd rfl inf28 rfl rfl (by simp only [List.length_cons, List.length_nil]; omega) (by simp only [List.length_cons, List.length_nil]; omega)) (Wd.u rfl) rfl rfl (fun v25 H25 r25 => ?_)
    obtain ⟨k25, ow, hk25, hs25⟩ := r25
    replace hk25 : Nx k H0.size k25 := hk25
    replace hs25 := hs25.md
    have dj1 : Dj kx k25 := Dj.app (dj.symm) ox.le hk25
    have nx2 : Nx k H0.size k25 := Nx.tr (nx_hm0_ow) hk25 hm0.size
    replace ox := ox.upL hs25 (DL.cons dj.symm DL.nil)
    replace hm0 := hm0.trL hs25 (MIL.cons (MI.app (MI.root (by simp)) (nx_hm0_ow) (Nat.le_refl _)) MIL.nil)
    have hz1 := hs25.size
    have hle_ow := ow.le
    refine LR.v (Y.assign rfl rfl) (Wd.u rfl) rfl rfl ?_
    refine LR.nil ?_
    refine hK9 _ _ ?_
    refine CW.ret (hE7 .ret nofun _ _ (hret .ret (.inr rfl) _ _ _ (res1 rfl rfl) ?_))
    exact ⟨v25, k25, rfl, by rw [← ins_end (by omega)]; exact ow, nx2, hm0⟩
  ·
    have hin : i < l.length := by omega
    have hne : l ≠ [] := by intro e; rw [e] at hin; simp at hin
    obtain ⟨g, cap, cs, hve, hkg, hvg, hcap, hcm, hcl, _⟩ := Ow.view ow hne
    unfold maxLen at hcm
    obtain ⟨gx, capx, csx, hvx, hkx, _, hcapx, hcmx, _, _⟩ := Ow.view ox (by simp)
    obtain ⟨csz, hzc⟩ := hzx
    rw [show kx - 1 = gx by omega] at hzc
    have hgg : gx ≠ g := fun e => dj g hkg.symm (by omega)
    refine CW.skip ?_
    refine hK7 _ _ ?_
    refine CW.seq (fun K10 hK10 hE10 => ?_)
    refine CW.seq (fun K11 hK11 hE11 => ?_)
    refine CW.region ?_
    refine LR.v (Y.move rfl rfl) (Wd.u rfl) rfl rfl ?_
    refine LR.v (Y.move rfl rfl) (Wd.u rfl) rfl rfl ?_
    refine LR.v (Y.addi rfl rfl rfl (by omega)) (Wd.u rfl) rfl rfl ?_
    refine LR.v (Y.move rfl rfl) (Wd.u rfl) rfl rfl ?_
    refine LR.v (Y.capV rfl Try.runUnderlying28 (congrArg some hve)) (Wd.u rfl) rfl rfl ?_
    refine LR.v (Y.gtr rfl rfl rfl) (Wd.u rfl) rfl rfl ?_
    refine LR.nil ?_
    refine hK11 _ _ ?_
    refine CW.condp rfl (fun c31 => ?_) (fun c31 => ?_)
    ·
      obtain ⟨ht40, i0, z0, hi0, hz0, hs0, hb0, _⟩ := inf28
      have hz9 : z0.cells.toList = fA Mz := by
        have h9 : (zeroValue 30).run Try.prog w0 = .ok (.agg (fA Mz).toArray) w0 := by kernel_rfl
        simp [zeroValue, typeInfo, hi0, hz0] at h9
        rw [h9]; rfl
      have hti : (l.take i).length = i := by rw [List.length_take]; omega
      refine CW.seq (fun K12 hK12 hE12 => ?_)
      refine CW.region ?_
      refine LR.v (Y.move rfl rfl) (Wd.u rfl) rfl rfl ?_
      refine LR.v (Y.move rfl rfl) (Wd.u rfl) rfl rfl ?_
      refine LR.v (Y.sl0 i rfl Try.runUnderlying28 Try.sizeOf30 (congrArg some hve) (.inr ⟨_, _, _, rfl, rfl, rfl⟩) (by omega)) (Wd.u rfl) rfl rfl ?_
      refine LR.v (Y.move rfl rfl) (Wd.u rfl) rfl rfl ?_
      refine LR.v (Y.move rfl rfl) (Wd.u rfl) rfl rfl ?_
      refine LR.v (Y.addi rfl rfl rfl (by omega)) (Wd.u rfl) rfl rfl ?_
      refine LR.v (Y.move rfl rfl) (Wd.u rfl) rfl rfl ?_
      refine LR.v (Y.cast (v2 := .int .i64 ((l.length + 1 - i : Nat) : Int)) (Y.subi rfl rfl rfl (by omega)) (by congr 1; omega)) (Wd.u rfl) rfl rfl ?_
      refine LR.z (Z.apndz (F := fun b => b + 1 = k) (ad := ⟨g, 0, none⟩) (c := cap) (xs := l.take i) (m := l.length + 1 - i) Mz fA_len fA_one (by have h9 := ow.rd; rw [hve] at h9; exact rd_take h9) rfl ht40 Try.underlying3 hi0 hz0 hs0 hb0 hz9 (by decide) (by omega) (by rw [hti]; rfl) rfl (by rw [hti]; omega) (by rw [hti]; omega) (by rw [hti]; omega)) (Wd.u rfl) rfl rfl (fun v40 H40 r40 => ?_)
      obtain ⟨on, hs40, ob40, hH40⟩ := r40
      have hzs40 : H40.size = H0.size + 1 := by rw [hH40]; simp
      have dj3 : Dj k (H0.size + 1) := Dj.new ow.le
      have dj4 : Dj kx (H0.size + 1) := Dj.new ox.le
      have nx5 : Nx 0 H0.size (H0.size + 1) := Nx.new hm0.size
      replace ow := ow.nw hs40
      replace ox := ox.nw hs40
      replace hm0 := hm0.trN hs40
      have hz2 := hs40.size
      have hlo : (l.take i ++ List.replicate (l.length + 1 - i) Mz).length = l.length + 1 := by rw [List.length_append, hti, List.length_replicate]; omega
      obtain ⟨g2, cap2, _, hv2, _, _, hcap2, _, _, _⟩ := Ow.view on (by intro e; rw [e] at hlo; simp at hlo)
      rw [hlo] at hv2 hcap2
      refine LR.v (Y.assign rfl rfl) (Wd.u rfl) rfl rfl ?_
      refine LR.nil ?_
      refine hK12 _ _ ?_
      refine CW.seq (fun K13 hK13 hE13 => ?_)
      refine CW.region ?_
      refine LR.v (Y.move rfl rfl) (Wd.u rfl) rfl rfl ?_
      refine LR.v (Y.move rfl rfl) (Wd.u rfl) rfl rfl ?_
      refine LR.v (Y.sl1 i rfl Try.runUnderlying28 Try.sizeOf30 (congrArg some hv2) rfl rfl (by omega) (by omega) (by omega)) (Wd.u rfl) rfl rfl ?_
      refine LR.v (Y.move rfl rfl) (Wd.u rfl) rfl rfl ?_
      refine LR.z (Z.copyO (i := i) on (by rw [hlo]; exact hv2) (show Rd (fun b => b + 1 = kx) _ fA 32 (.slice (some ⟨gx, 0, none⟩) [x].length capx) [x] from by have h9 := ox.rd; rw [hvx] at h9; exact h9) (by intro e; rw [e] at hlo; simp at hlo) rfl Try.underlying28 Try.sizeOf30 rfl (congrArg some hvx) (by simp; omega) (by rw [hlo]; simp; omega) (by simp)) (Wd.u rfl) rfl rfl (fun v45 H45 r45 => ?_)
      obtain ⟨rfl, on, hs45⟩ := r45
      replace hs45 := hs45.md
      replace ow := ow.upL hs45 (DL.cons dj3 DL.nil)
      replace ox := ox.upL hs45 (DL.cons dj4 DL.nil)
      replace hm0 := hm0.trL hs45 (MIL.cons (MI.app MI.z (nx5) (Nat.le_refl _)) MIL.nil)
      have hz3 := hs45.size
      have hlo2 : ((l.take i ++ List.replicate (l.length + 1 - i) Mz).take i ++ [x] ++ (l.take i ++ List.replicate (l.length + 1 - i) Mz).drop (i + [x].length)).length = l.length + 1 := by simp; omega
      refine LR.nil ?_
      refine hK13 _ _ ?_
      refine CW.seq (fun K14 hK14 hE14 => ?_)
      refine CW.region_tail 8 rfl (by kernel_rfl) (fun T11 hT11 => ?_)
      refine LR.v (Y.move rfl rfl) (Wd.u rfl) rfl rfl ?_
      refine LR.v (Y.move rfl rfl) (Wd.u rfl) rfl rfl ?_
      refine LR.v (Y.move rfl rfl) (Wd.u rfl) rfl rfl ?_
      refine LR.v (Y.addi rfl rfl rfl (by omega)) (Wd.u rfl) rfl rfl ?_
      refine LR.v (Y.sl1 (i + 1) rfl Try.runUnderlying28 Try.sizeOf30 (congrArg some hv2) rfl (by simp) (by omega) (by omega) (by omega)) (Wd.u rfl) rfl rfl ?_
      refine LR.v (Y.move rfl rfl) (Wd.u rfl) rfl rfl ?_
      refine LR.v (Y.move rfl rfl) (Wd.u rfl) rfl rfl ?_
      refine LR.v (Y.sl1 i rfl Try.runUnderlying28 Try.sizeOf30 (congrArg some hve) rfl rfl (by omega) (by omega) (by omega)) (Wd.u rfl) rfl rfl ?_
      refine LR.nil (hT11 _ ?_)
      refine LR.z (Z.copyO (i := i + 1) (ys := l.drop i) on (by rw [hlo2]; exact hv2) (show Rd (fun b => b + 1 = k) _ fA 32 (.slice (some ⟨g, i * 32, none⟩) (l.drop i).length (cap - i)) (l.drop i) from by have h9 := ow.rd; rw [hve] at h9; exact rd_drop h9) (by intro e; rw [e] at hlo2; simp at hlo2) rfl Try.underlying28 Try.sizeOf30 rfl (by rw [List.length_drop]; rfl) (by rw [List.length_drop]; omega) (by rw [hlo2, List.length_drop]; omega) (by intro e; have h9 := congrArg List.length e; rw [List.length_drop] at h9; simp at h9; omega)) (Wd.u rfl) rfl rfl (fun v54 H54 r54 => ?_)
      obtain ⟨rfl, on, hs54⟩ := r54
      replace hs54 := hs54.md
      replace ow := ow.upL hs54 (DL.cons dj3 DL.nil)
      replace ox := ox.upL hs54 (DL.cons dj4 DL.nil)
      replace hm0 := hm0.trL hs54 (MIL.cons (MI.app MI.z (nx5) (Nat.le_refl _)) MIL.nil)
      have hz4 := hs54.size
      refine LR.nil ?_
      refine hK14 _ _ ?_
      refine CW.seq (fun K15 hK15 hE15 => ?_)
      refine CW.region ?_
      refine LR.v (Y.move rfl rfl) (Wd.u rfl) rfl rfl ?_
      refine LR.v (Y.assign rfl rfl) (Wd.u rfl) rfl rfl ?_
      refine LR.nil ?_
      refine hK15 _ _ ?_
      refine CW.ret (hE10 .ret nofun _ _ (hret .ret (.inr rfl) _ _ _ (res1 rfl rfl) ?_))
      exact ⟨v40, (H0.size + 1), rfl, by have h9 := on; rw [show i + [x].length = i + 1 from rfl, ins_grow hin rfl] at h9; exact h9, (by unfold Nx; omega), hm0⟩
    ·
      refine CW.skip ?_
      refine hK10 _ _ ?_
      refine CW.seq (fun K16 hK16 hE16 => ?_)
      refine CW.region ?_
      refine LR.v (Y.move rfl rfl) (Wd.u rfl) rfl rfl ?_
      refine LR.v (Y.move rfl rfl) (Wd.u rfl) rfl rfl ?_
      refine LR.v (Y.move rfl rfl) (Wd.u rfl) rfl rfl ?_
      refine LR.v (Y.addi rfl rfl rfl (by omega)) (Wd.u rfl) rfl rfl ?_
      refine LR.v (Y.sl0 (l.length + 1) rfl Try.runUnderlying28 Try.sizeOf30 (congrArg some hve) (.inr ⟨_, _, _, rfl, rfl, by simp⟩) (by omega)) (Wd.u rfl) rfl rfl ?_
      refine LR.v (Y.assign rfl rfl) (Wd.u rfl) rfl rfl ?_
      refine LR.nil ?_
      refine hK16 _ _ ?_
      refine CW.seq (fun K17 hK17 hE17 => ?_)
      refine CW.seq (fun K18 hK18 hE18 => ?_)
      refine CW.region ?_
      refine LR.v (Y.move rfl rfl) (Wd.u rfl) rfl rfl ?_
      refine LR.v (Y.move rfl rfl) (Wd.u rfl) rfl rfl ?_
      refine LR.v (Y.move rfl rfl) (Wd.u rfl) rfl rfl ?_
      refine LR.v (Y.move rfl rfl) (Wd.u rfl) rfl rfl ?_
      refine LR.v (Y.addi rfl rfl rfl (by omega)) (Wd.u rfl) rfl rfl ?_
      refine LR.v (Y.sl1 (i + 1) rfl Try.runUnderlying28 Try.sizeOf30 rfl rfl (by simp) (by omega) (by omega) (by omega)) (Wd.u rfl) rfl rfl ?_
      refine LR.v (Y.overlaps (tS := 28) (tR := 4) hzc hvg hgg (by omega) rfl rfl (by kernel_rfl) (by kernel_rfl) (by kernel_rfl) (by kernel_rfl) Try.underlying28 Try.sizeOf30 (congrArg (fun z => some [z, _]) hvx)) (Wd.u rfl) rfl rfl ?_
      refine LR.v (Y.not rfl rfl) (Wd.u rfl) rfl rfl ?_
      refine LR.nil ?_
      refine hK18 _ _ ?_
      refine CW.cond_t rfl ?_
      refine CW.seq (fun K19 hK19 hE19 => ?_)
      refine CW.region_tail 8 rfl (by kernel_rfl) (fun T15 hT15 => ?_)
      refine LR.v (Y.move rfl rfl) (Wd.u rfl) rfl rfl ?_
      refine LR.v (Y.move rfl rfl) (Wd.u rfl) rfl rfl ?_
      refine LR.v (Y.move rfl rfl) (Wd.u rfl) rfl rfl ?_
      refine LR.v (Y.addi rfl rfl rfl (by omega)) (Wd.u rfl) rfl rfl ?_
      refine LR.v (Y.sl1 (i + 1) rfl Try.runUnderlying28 Try.sizeOf30 rfl rfl (by simp) (by omega) (by omega) (by omega)) (Wd.u rfl) rfl rfl ?_
      refine LR.v (Y.move rfl rfl) (Wd.u rfl) rfl rfl ?_
      refine LR.v (Y.move rfl rfl) (Wd.u rfl) rfl rfl ?_
      refine LR.v (Y.sl1 i rfl Try.runUnderlying28 Try.sizeOf30 rfl rfl rfl (by omega) (by omega) (by omega)) (Wd.u rfl) rfl rfl ?_
      refine LR.nil (hT15 _ ?_)
      refine LR.z (Z.copyUp (i := i) ow hve hin (by omega) rfl Try.underlying28 Try.sizeOf30 rfl rfl (by omega)) (Wd.u rfl) rfl rfl (fun v77 H77 r77 => ?_)
      obtain ⟨rfl, ow, hs77⟩ := r77
      replace hs77 := hs77.md
      replace ox := ox.upL hs77 (DL.cons dj.symm DL.nil)
      replace hm0 := hm0.trL hs77 (MIL.cons (MI.app (MI.root (by simp)) (nx_hm0_ow) (Nat.le_refl _)) MIL.nil)
      have hz5 := hs77.size
      have hlu : (l.take (i + 1) ++ l.drop i).length = l.length + 1 := by simp; omega
      refine LR.nil ?_
      refine hK19 _ _ ?_
      refine CW.seq (fun K20 hK20 hE20 => ?_)
      refine CW.region ?_
      refine LR.v (Y.move rfl rfl) (Wd.u rfl) rfl rfl ?_
      refine LR.v (Y.move rfl rfl) (Wd.u rfl) rfl rfl ?_
      refine LR.v (Y.sl1 i rfl Try.runUnderlying28 Try.sizeOf30 rfl rfl rfl (by omega) (by omega) (by omega)) (Wd.u rfl) rfl rfl ?_
      refine LR.v (Y.move rfl rfl) (Wd.u rfl) rfl rfl ?_
      refine LR.z (Z.copyO (i := i) ow (by rw [hlu]) (show Rd (fun b => b + 1 = kx) _ fA 32 (.slice (some ⟨gx, 0, none⟩) [x].length capx) [x] from by have h9 := ox.rd; rw [hvx] at h9; exact h9) (by intro e; rw [e] at hlu; simp at hlu) rfl Try.underlying28 Try.sizeOf30 rfl (congrArg some hvx) (by simp; omega) (by rw [hlu]; simp; omega) (by simp)) (Wd.u rfl) rfl rfl (fun v82 H82 r82 => ?_)
      obtain ⟨rfl, ow, hs82⟩ := r82
      replace hs82 := hs82.md
      replace ox := ox.upL hs82 (DL.cons dj.symm DL.nil)
      replace hm0 := hm0.trL hs82 (MIL.cons (MI.app (MI.root (by simp)) (nx_hm0_ow) (Nat.le_refl _)) MIL.nil)
      have hz6 := hs82.size
      refine LR.nil ?_
      refine hK20 _ _ ?_
      refine CW.seq (fun K21 hK21 hE21 => ?_)
      refine CW.region ?_
      refine LR.v (Y.move rfl rfl) (Wd.u rfl) rfl rfl ?_
      refine LR.v (Y.assign rfl rfl) (Wd.u rfl) rfl rfl ?_
      refine LR.nil ?_
      refine hK21 _ _ ?_
      refine CW.ret (hE17 .ret nofun _ _ (hret .ret (.inr rfl) _ _ _ (res1 rfl rfl) ?_))
      exact ⟨.slice (some ⟨g, 0, none⟩) (l.length + 1) cap, k, rfl, by have h9 := ow; rw [show i + [x].length = i + 1 from rfl, ins_up hin] at h9; exact h9, nx_hm0_ow, hm0⟩


theorem sortA_ct (k : Nat) (v : Value) (l : List Ide) (w0 : World) (H : Heap) (h : Ow k 30 H fA 32 v l) (hl : l.length < 4611686018427387904) :
    Ct Try.prog w0 38 #[v, .func (.func 32) #[] #[]] H (fun r H2 => ∃ l2 k2, r = .tuple #[] ∧ Ow k2 30 H2 fA 32 v l2 ∧ Nx k H.size k2 ∧ (l2.Perm l ∧ l2.Pairwise (fun x y => ¬ cA y x < 0)) ∧ Mo (Ms [k]) H H2) := by
  have h0 := Ct.sortf (w0 := w0) Try.sort38 Try.isAgg30 Try.sizeOf30 cA cA_co.swo 32 (enters_of Try.func32 (by kernel_rfl) rfl) (fun w0 H0 x y => acmp_ct x y w0 H0) h hl
  exact h0.mono (fun r H2 ⟨l2, h1, h2, h3, h4, h5⟩ => ⟨l2, k, h1, h2, h3, h4, h5⟩)
theorem cmpClo (w0 : World) (H : Heap) (x y : Ide) : Clo Try.prog w0 (.func (.func 32) #[] #[]) [vA x, vA y] H (fun r H2 => r = .int .i64 (cA x y) ∧ Nw H H2) :=
  Clo.of (caps := []) (enters_of Try.func32 (by kernel_rfl) rfl) (acmp_ct x y w0 H)

end Go.Proofs.Ytepdhokpfecdnaa.GraE
/-
  Where a name belongs in a row that rises.
-/
namespace Go.Proofs.Ytepdhokpfecdnaa.GraF
open Go.Proofs.Ytepdhokpfecdnaa.E Go.RowKit Go.Proofs.Ytepdhokpfecdnaa.GraA Go.Proofs.Ytepdhokpfecdnaa.GraB Go.Proofs.Ytepdhokpfecdnaa.GraC Go.Proofs.Ytepdhokpfecdnaa.GraD Go.Proofs.Ytepdhokpfecdnaa.GraE
set_option maxRecDepth 20000
set_option linter.unusedVariables false
set_option linter.unusedSimpArgs false
set_option linter.unusedSectionVars false
theorem bsf_ct (v1 : Value) (l : List Ide) (x : Ide) (w0 : World) (H0 : Heap)
    (hl : RdT H0 fA 32 v1 l) (hll : l.length ≤ 1000000) (hs : Ris l) :
    Ct Try.prog w0 39 #[v1, vA x, .func (.func 32) #[] #[]] H0 (fun r H2 => ∃ at_ : Nat, ∃ fd : Bool, r = .tuple #[.int .i64 (at_ : Int), .bool fd] ∧ (at_ ≤ l.length ∧ (∀ j (h : j < l.length), j < at_ → ltA l[j] x) ∧ (∀ j (h : j < l.length), at_ ≤ j → ¬ ltA l[j] x)) ∧ Nw H0 H2) := by
  refine Ct.enter (args := [v1, vA x, .func (.func 32) #[] #[]]) Try.func39 rfl rfl rfl ?_
  intro Q0 hret
  have hm0 : Nw H0 H0 := Mo.refl _ _
  replace hl := hl.bnd
  have bf_hl := hl.bf
  refine CW.seq (fun K1 hK1 hE1 => ?_)
  refine CW.region ?_
  refine LR.z (Z.boxv rfl rfl) (Wd.u rfl) rfl rfl (fun v4 H4 r4 => ?_)
  obtain ⟨rfl, vi, hs4, ob4, hH4⟩ := r4
  have hzs4 : H4.size = H0.size + 1 := by rw [hH4]; simp
  have df1 := (DF.new (bf_hl.mono hm0.size) : DF _ (H0.size + 1))
  have nx2 : Nx 0 H0.size (H0.size + 1) := Nx.new hm0.size
  replace hl := hl.nw hs4
  replace hm0 := hm0.tr hs4
  have hz1 := hs4.size
  replace vi : Var 30 H4 H0.size (fA x) := vi
  refine LR.v (Y.assign rfl rfl) (Wd.u rfl) rfl rfl ?_
  refine LR.v (Y.assign rfl rfl) (Wd.u rfl) rfl rfl ?_
  refine LR.nil ?_
  refine hK1 _ _ ?_
  refine CW.seq (fun K2 hK2 hE2 => ?_)
  refine CW.region ?_
  refine LR.v (Y.move rfl rfl) (Wd.u rfl) rfl rfl ?_
  refine LR.v (Y.len hl rfl Try.runUnderlying28 rfl) (Wd.u rfl) rfl rfl ?_
  refine LR.v (Y.assign rfl rfl) (Wd.u rfl) rfl rfl ?_
  refine LR.nil ?_
  refine hK2 _ _ ?_
  refine CW.seq (fun K3 hK3 hE3 => ?_)
  refine CW.region ?_
  refine LR.v (Y.move rfl rfl) (Wd.u rfl) rfl rfl ?_
  refine LR.v (Y.assign rfl rfl) (Wd.u rfl) rfl rfl ?_
  refine LR.v (Y.assign rfl rfl) (Wd.u rfl) rfl rfl ?_
  refine LR.nil ?_
  refine hK3 _ _ ?_
  refine CW.seq (fun K4 hK4 hE4 => ?_)
  refine CW.block (fun K5 hK5 hX5 hE5 => ?_)
  refine CW.loop (fun (s_ : (Nat) × (Nat)) => match s_ with | (i, j) => [(0, v1), (2, .func (.func 32) #[] #[]), (4, .pointer (some ⟨H0.size, 0, none⟩)), (8, .int .i64 (l.length : Int)), (9, .int .i64 (i : Int)), (10, .int .i64 (j : Int))])
    (fun (s_ : (Nat) × (Nat)) (H : Heap) => match s_ with | (i, j) => (i ≤ j ∧ j ≤ l.length) ∧ (∀ q (h : q < l.length), q < i → ltA l[q] x) ∧ (∀ q (h : q < l.length), j ≤ q → ¬ ltA l[q] x) ∧ Nw H4 H)
    (fun (s_ : (Nat) × (Nat)) => match s_ with | (i, j) => j - i) (0, l.length) ⟨rfl, rfl, rfl, rfl, rfl, rfl, trivial⟩ ?_ ?_
  ·
    exact ⟨(by omega), fun q h h2 => by omega, fun q h h2 => by omega, Mo.refl _ _⟩
  rintro ⟨i, j⟩ HL1 hI1 K6 hN6 hE6
  obtain ⟨hij, h1, h2, hlm1⟩ := hI1
  replace hl := hl.nw hlm1
  replace vi := vi.nw hlm1
  replace hm0 := hm0.tr hlm1
  have hz2 := hlm1.size
  refine CW.seq (fun K7 hK7 hE7 => ?_)
  refine CW.seq (fun K8 hK8 hE8 => ?_)
  refine CW.region ?_
  refine LR.v (Y.move rfl rfl) (Wd.u rfl) rfl rfl ?_
  refine LR.v (Y.move rfl rfl) (Wd.u rfl) rfl rfl ?_
  refine LR.v (Y.lss rfl rfl rfl) (Wd.u rfl) rfl rfl ?_
  refine LR.nil ?_
  refine hK8 _ _ ?_
  refine CW.condp rfl (fun c17 => ?_) (fun c17 => ?_)
  ·
    refine CW.skip ?_
    refine hK7 _ _ ?_
    refine CW.block (fun K9 hK9 hX9 hE9 => ?_)
    refine CW.seq (fun K10 hK10 hE10 => ?_)
    refine CW.region ?_
    refine LR.v (Y.move rfl rfl) (Wd.u rfl) rfl rfl ?_
    refine LR.v (Y.move rfl rfl) (Wd.u rfl) rfl rfl ?_
    refine LR.v (Y.cast (v2 := .int .i64 ((i + j : Nat) : Int)) (Y.addi rfl rfl rfl (by omega)) (ivv (by omega))) (Wd.u rfl) rfl rfl ?_
    refine LR.v (Y.conv_u64 rfl Try.runUnderlying3 Try.runUnderlying65 rfl) (Wd.u rfl) rfl rfl ?_
    refine LR.v (Y.cast (v2 := .int .u64 (((i + j) / 2 : Nat) : Int)) (Y.shr_u64 (1) rfl rfl rfl (by first | rfl | omega) (by omega)) (by rw [shrw_u64_toNat, UInt64.toNat_ofNat', Nat.mod_eq_of_lt (by omega)])) (Wd.u rfl) rfl rfl ?_
    refine LR.v (Y.convi rfl Try.runUnderlying65 Try.runUnderlying3 rfl (IntWalk.i64_in _ (by omega))) (Wd.u rfl) rfl rfl ?_
    refine LR.v (Y.assign rfl rfl) (Wd.u rfl) rfl rfl ?_
    refine LR.nil ?_
    refine hK10 _ _ ?_
    refine CW.seq (fun K11 hK11 hE11 => ?_)
    refine CW.region_tail 6 rfl (by kernel_rfl) (fun T5 hT5 => ?_)
    refine LR.v (Y.move rfl rfl) (Wd.u rfl) rfl rfl ?_
    refine LR.v (Y.move rfl rfl) (Wd.u rfl) rfl rfl ?_
    refine LR.v (Y.move rfl rfl) (Wd.u rfl) rfl rfl ?_
    refine LR.e (g := fun ad => .pointer (some ad)) (Y.indexAddrF hl ((i + j) / 2) rfl Try.runUnderlying28 Try.sizeOf30 rfl rfl (by first | rfl | omega) (by omega)) (Wd.u rfl) rfl rfl (fun ad27 pt27 => ?_)
    have bf_pt27 := bf_hl
    refine LR.v (Y.loadN pt27.pt rfl Try.isAgg30 Try.sizeOf30 (fA_len _) rfl) (Wd.u rfl) rfl rfl ?_
    refine LR.v (Y.loadN vi.pt rfl Try.isAgg30 Try.sizeOf30 (fA_len _) rfl) (Wd.u rfl) rfl rfl ?_
    refine LR.nil (hT5 _ ?_)
    refine LR.calld rfl rfl rfl (Wd.u rfl) rfl rfl (cmpClo w0 _ _ x) (fun v30 H30 r30 => ?_)
    obtain ⟨rfl, hs30⟩ := r30
    replace hl := hl.nw hs30
    replace vi := vi.nw hs30
    replace pt27 := pt27.nw hs30
    replace hm0 := hm0.tr hs30
    replace hlm1 := hlm1.tr hs30
    have hz3 := hs30.size
    refine LR.v (Y.lss rfl rfl rfl) (Wd.u rfl) rfl rfl ?_
    refine LR.nil ?_
    refine hK11 _ _ ?_
    refine CW.condp rfl (fun c31 => ?_) (fun c31 => ?_)
    ·
      refine CW.region ?_
      refine LR.v (Y.move rfl rfl) (Wd.u rfl) rfl rfl ?_
      refine LR.v (Y.addi rfl rfl rfl (by omega)) (Wd.u rfl) rfl rfl ?_
      refine LR.v (Y.assign rfl rfl) (Wd.u rfl) rfl rfl ?_
      refine LR.nil ?_
      refine hK9 _ _ ?_
      refine QN.sub (hN6 ((i + j) / 2 + 1, j) _ ?_ ?_) ⟨rfl, rfl, rfl, (iv (by omega)), (iv (by omega)), (iv (by omega)), trivial⟩
      · exact ⟨(by omega), fun q h h3 => by
          by_cases hq : q = (i + j) / 2
          · subst hq; exact cA_neg.1 c31
          · exact ltA_tr (List.pairwise_iff_getElem.1 hs q ((i + j) / 2) h (by omega) (by omega)) (cA_neg.1 c31), h2, hlm1⟩
      · first | omega | (simp only; omega) | (simp; omega)
    ·
      refine CW.region ?_
      refine LR.v (Y.move rfl rfl) (Wd.u rfl) rfl rfl ?_
      refine LR.v (Y.assign rfl rfl) (Wd.u rfl) rfl rfl ?_
      refine LR.nil ?_
      refine hK9 _ _ ?_
      refine QN.sub (hN6 (i, (i + j) / 2) _ ?_ ?_) ⟨rfl, rfl, rfl, (iv (by omega)), (iv (by omega)), (iv (by omega)), trivial⟩
      · exact ⟨(by omega), h1, fun q h h3 h4 => by
          by_cases hq : q = (i + j) / 2
          · subst hq; exact absurd (cA_neg.2 h4) c31
          · exact absurd (cA_neg.2 (ltA_tr (List.pairwise_iff_getElem.1 hs ((i + j) / 2) q (by omega) h (by omega)) h4)) c31, hlm1⟩
      · first | omega | (simp only; omega) | (simp; omega)
  ·
    refine CW.exit (hE7 (.exit 0) nofun _ _ (hE6 (.exit 0) nofun _ _ (hX5 _ _ ?_)))
    refine hK4 _ _ ?_
    refine CW.seq (fun K12 hK12 hE12 => ?_)
    refine CW.region_any (fun Hq => Nw HL1 Hq) [] rfl ?_
    have hqs := Nw.refl HL1
    refine LH.take 0 (by kernel_rfl) rfl (by kernel_rfl) (by kernel_rfl) (by kernel_rfl) (fun Hq hq => Y.move rfl rfl) (Wd.u rfl) rfl rfl hqs ?_
    refine LH.take 1 (by kernel_rfl) rfl (by kernel_rfl) (by kernel_rfl) (by kernel_rfl) (fun Hq hq => Y.move rfl rfl) (Wd.u rfl) rfl rfl hqs ?_
    refine LH.take 2 (by kernel_rfl) rfl (by kernel_rfl) (by kernel_rfl) (by kernel_rfl) (fun Hq hq => Y.move rfl rfl) (Wd.u rfl) rfl rfl hqs ?_
    refine LH.take 3 (by kernel_rfl) rfl (by kernel_rfl) (by kernel_rfl) (by kernel_rfl) (fun Hq hq => Y.lss rfl rfl rfl) (Wd.u rfl) rfl rfl hqs ?_
    refine LH.take 4 (by kernel_rfl) rfl (by kernel_rfl) (by kernel_rfl) (by kernel_rfl) (fun Hq hq => Y.move rfl rfl) (Wd.u rfl) rfl rfl hqs ?_
    refine LH.splitp (d := 39) rfl (fun g39 => ?_) (fun g39 => ?_)
    ·
      refine LH.take 5 (by kernel_rfl) rfl (by kernel_rfl) (by kernel_rfl) (by kernel_rfl) (fun Hq hq => Y.move rfl rfl) (Wd.g rfl rfl rfl) rfl rfl hqs ?_
      refine LH.take 6 (by kernel_rfl) rfl (by kernel_rfl) (by kernel_rfl) (by kernel_rfl) (fun Hq hq => Y.move rfl rfl) (Wd.g rfl rfl rfl) rfl rfl hqs ?_
      refine LH.take 7 (by kernel_rfl) rfl (by kernel_rfl) (by kernel_rfl) (by kernel_rfl) (fun Hq hq => Y.move rfl rfl) (Wd.g rfl rfl rfl) rfl rfl hqs ?_
      refine LH.e (g := fun ad => .pointer (some ad)) 8 (by kernel_rfl) rfl (by kernel_rfl) (by kernel_rfl) (by kernel_rfl) (Y.indexAddrF hl (_) rfl Try.runUnderlying28 Try.sizeOf30 rfl rfl rfl (by first | omega | (simp; omega) | (simp; done))) (Wd.g rfl rfl rfl) rfl rfl hqs (fun ad43 pt43 => ?_)
      have bf_pt43 := bf_hl
      refine LH.take 9 (by kernel_rfl) rfl (by kernel_rfl) (by kernel_rfl) (by kernel_rfl) (fun Hq hq => Y.loadN (pt43.pt.nw hq) rfl Try.isAgg30 Try.sizeOf30 (fA_len _) rfl) (Wd.g rfl rfl rfl) rfl rfl hqs ?_
      refine LH.take 10 (by kernel_rfl) rfl (by kernel_rfl) (by kernel_rfl) (by kernel_rfl) (fun Hq hq => Y.loadN (vi.pt.nw hq) rfl Try.isAgg30 Try.sizeOf30 (fA_len _) rfl) (Wd.g rfl rfl rfl) rfl rfl hqs ?_
      refine LH.one (i := 11) (by kernel_rfl) ?_
      refine LO.calld rfl rfl rfl rfl (Wd.g rfl rfl rfl) rfl rfl (cmpClo w0 _ _ x) (fun v46 H46 r46 => ?_)
      obtain ⟨rfl, hs46⟩ := r46
      replace hl := hl.nw hs46
      replace vi := vi.nw hs46
      replace pt43 := pt43.nw hs46
      replace hm0 := hm0.tr hs46
      have hz4 := hs46.size
      have hq46 := hqs.tr hs46
      refine ⟨.inr hq46, LH.narrow (SH2 := fun Hq => Nw H46 Hq) (fun Hq hq => hq46.tr hq) ?_⟩
      have hqn46 := Nw.refl H46
      refine LH.take 12 (by kernel_rfl) rfl (by kernel_rfl) (by kernel_rfl) (by kernel_rfl) (fun Hq hq => Y.eql rfl rfl rfl) (Wd.g rfl rfl rfl) rfl rfl hqn46 ?_
      refine LH.take 13 (by kernel_rfl) rfl (by kernel_rfl) (by kernel_rfl) (by kernel_rfl) (fun Hq hq => Y.pick_t rfl rfl rfl) (Wd.u rfl) rfl rfl hqn46 ?_
      refine LH.take 14 (by kernel_rfl) rfl (by kernel_rfl) (by kernel_rfl) (by kernel_rfl) (fun Hq hq => Y.assign rfl rfl) (Wd.u rfl) rfl rfl hqn46 ?_
      refine LH.take 15 (by kernel_rfl) rfl (by kernel_rfl) (by kernel_rfl) (by kernel_rfl) (fun Hq hq => Y.assign rfl rfl) (Wd.u rfl) rfl rfl hqn46 ?_
      refine LH.done (by kernel_rfl) ?_
      have hqe := hqn46
      refine hK12 _ _ ?_
      refine CW.ret (hret .ret (.inr rfl) _ _ _ (res2 rfl rfl rfl) ?_)
      exact ⟨i, _, rfl, ⟨by omega, h1, fun q h h3 => h2 q h (by omega)⟩, hm0⟩
    ·
      refine LH.gs 5 (by kernel_rfl) rfl (by kernel_rfl) (by kernel_rfl) (by kernel_rfl) rfl rfl rfl rfl rfl rfl hqs ?_
      refine LH.gs 6 (by kernel_rfl) rfl (by kernel_rfl) (by kernel_rfl) (by kernel_rfl) rfl rfl rfl rfl rfl rfl hqs ?_
      refine LH.gs 7 (by kernel_rfl) rfl (by kernel_rfl) (by kernel_rfl) (by kernel_rfl) rfl rfl rfl rfl rfl rfl hqs ?_
      refine LH.gs 8 (by kernel_rfl) rfl (by kernel_rfl) (by kernel_rfl) (by kernel_rfl) rfl rfl rfl rfl rfl rfl hqs ?_
      refine LH.gs 9 (by kernel_rfl) rfl (by kernel_rfl) (by kernel_rfl) (by kernel_rfl) rfl rfl rfl rfl rfl rfl hqs ?_
      refine LH.gs 10 (by kernel_rfl) rfl (by kernel_rfl) (by kernel_rfl) (by kernel_rfl) rfl rfl rfl rfl rfl rfl hqs ?_
      refine LH.gs 11 (by kernel_rfl) rfl (by kernel_rfl) (by kernel_rfl) (by kernel_rfl) rfl rfl rfl rfl rfl rfl hqs ?_
      refine LH.gs 12 (by kernel_rfl) rfl (by kernel_rfl) (by kernel_rfl) (by kernel_rfl) rfl rfl rfl rfl rfl rfl hqs ?_
      refine LH.take 13 (by kernel_rfl) rfl (by kernel_rfl) (by kernel_rfl) (by kernel_rfl) (fun Hq hq => Y.pick_f rfl rfl rfl) (Wd.u rfl) rfl rfl hqs ?_
      refine LH.take 14 (by kernel_rfl) rfl (by kernel_rfl) (by kernel_rfl) (by kernel_rfl) (fun Hq hq => Y.assign rfl rfl) (Wd.u rfl) rfl rfl hqs ?_
      refine LH.take 15 (by kernel_rfl) rfl (by kernel_rfl) (by kernel_rfl) (by kernel_rfl) (fun Hq hq => Y.assign rfl rfl) (Wd.u rfl) rfl rfl hqs ?_
      refine LH.done (by kernel_rfl) ?_
      have hqe := hqs
      refine hK12 _ _ ?_
      refine CW.ret (hret .ret (.inr rfl) _ _ _ (res2 rfl rfl rfl) ?_)
      exact ⟨i, _, rfl, ⟨by omega, h1, fun q h h3 => h2 q h (by omega)⟩, hm0⟩

end Go.Proofs.Ytepdhokpfecdnaa.GraF
/-
  Families of rows that are ours, one for each key; histories above a heap's size: no condition.
-/
namespace Go.Proofs.Ytepdhokpfecdnaa.E
set_option linter.unusedVariables false
set_option linter.unusedSimpArgs false
set_option linter.unusedSectionVars false
/-- numbers that are 0 or above h -/
def BL (h : Nat) (ks : List Nat) : Prop := ∀ k ∈ ks, Nx 0 h k
section
variable {h k kk : Nat} {ks : List Nat} {G F : Nat → Prop} {H0 H H' : Heap}
theorem BL.nil : BL h [] := fun k hk => by cases hk
theorem BL.cons (d : Nx 0 h k) (e : BL h ks) : BL h (k :: ks) := fun j hj => by
  rcases List.mem_cons.1 hj with rfl | hj
  · exact d
  · exact e j hj
theorem Mo.trBB (x : Mo (fun c => h ≤ c) H0 H) (s : Mo (fun c => h ≤ c) H H') : Mo (fun c => h ≤ c) H0 H' := Mo.trans x s (fun _ _ e => e) (fun _ _ e => e)
theorem Mo.trBN (x : Mo (fun c => h ≤ c) H0 H) (s : Nw H H') : Mo (fun c => h ≤ c) H0 H' := Mo.trans x s (fun _ _ e => e) (fun _ _ e => e.elim)
theorem Mo.trB (x : Mo (fun c => h ≤ c) H0 H) (s : Mo (Ms ks) H H') (d : BL h ks) : Mo (fun c => h ≤ c) H0 H' := Mo.trans x s (fun _ _ e => e) (fun b _ e => by have := d (b + 1) e; unfold Nx at this; omega)
theorem Dj.fam (d : DF G k) (hk : ∀ b, b + 1 = kk → G b) : Dj k kk := fun c h1 h2 => d c (hk c h2) h1
theorem Nx.z {a : Nat} (x : Nx 0 h k) : Nx a h k := by unfold Nx at *; omega
theorem Dj.nx {a : Nat} (d : a ≤ h) (x : Nx 0 h k) : Dj a k := fun c h1 h2 => by unfold Nx at x; omega
theorem DF.nx (d : BF F h) (x : Nx 0 h k) : DF F k := fun b hb e => by have := d b hb; unfold Nx at x; omega
theorem Nx.fam (hG : ∀ b, G b → h ≤ b) (hk : ∀ b, b + 1 = kk → G b) : Nx 0 h kk := by
  cases kk with
  | zero => exact .inl rfl
  | succ c => have := hG c (hk c rfl); unfold Nx; omega
end
section
variable {κ β : Type} [DecidableEq κ] {fk : κ → Value} {fv : β → Value} {b m r : Nat} {l : List (κ × β)} {es : Array MapEntry} {clock : Nat} {dn : List κ} {H H' : Heap}
theorem Mr.upA (x : Mr H fk fv b l es clock) (s : Mo (fun c => m ≤ c) H H') (d : b + 1 ≤ m) : Mr H' fk fv b l es clock := x.up s (by omega)
theorem Itr.upA (x : Itr H b r fk es clock dn) (s : Mo (fun c => m ≤ c) H H') (d : b + 1 ≤ m) : Itr H' b r fk es clock dn := x.up s (by omega)
end
/-- rows that are ours, one for each key, of blocks that are told -/
structure Fam {κ α : Type} (G : Nat → Prop) (e : TypeId) (H : Heap) (f : α → List Value) (sz : Nat) (val : κ → Value) (ch : κ → List α) : Prop where
  ex : ∃ nm : κ → Nat, (∀ p, Ow (nm p) e H f sz (val p) (ch p)) ∧ (∀ p q, p ≠ q → Dj (nm p) (nm q)) ∧ ∀ p b, b + 1 = nm p → G b
section
variable {κ α : Type} {G : Nat → Prop} {e : TypeId} {H H' : Heap} {f : α → List Value} {sz : Nat} {val : κ → Value} {ch : κ → List α} {ks : List Nat}
theorem Fam.none (hf : ∀ x, (f x).length = sz) (h1 : ∀ x, ∀ u ∈ f x, u.oneCell' = true) : Fam G e H f sz (fun _ : κ => .slice none 0 0) (fun _ => ([] : List α)) :=
  ⟨fun _ => 0, fun p => ⟨(Ow.nil hf h1).own, Nat.zero_le _⟩, fun p q _ => Dj.z, fun p b (hb : b + 1 = 0) => absurd hb (by omega)⟩
theorem Fam.nw (h : Fam G e H f sz val ch) (s : Nw H H') : Fam G e H' f sz val ch := by
  obtain ⟨nm, h1, h2, h3⟩ := h.ex
  exact ⟨nm, fun p => (h1 p).nw s, h2, h3⟩
theorem Fam.upL (h : Fam G e H f sz val ch) (s : Mo (Ms ks) H H') (d : DFL G ks) : Fam G e H' f sz val ch := by
  obtain ⟨nm, h1, h2, h3⟩ := h.ex
  exact ⟨nm, fun p => (h1 p).up s (fun b _ hb hm => d (b + 1) hm b (h3 p b hb) rfl), h2, h3⟩
theorem Fam.row (h : Fam G e H f sz val ch) (p : κ) : Rd G H f sz (val p) (ch p) := by
  obtain ⟨nm, h1, h2, h3⟩ := h.ex
  exact (h1 p).rd.imp (fun b _ hb => h3 p b hb)
theorem Fam.at [DecidableEq κ] (h : Fam G e H f sz val ch) (p : κ) : ∃ kk, Ow kk e H f sz (val p) (ch p) ∧ (∀ b, b + 1 = kk → G b) ∧
    ∀ H' k2 r l', Mo (Ms [kk]) H H' → Ow k2 e H' f sz r l' → Nx kk H.size k2 → Fam (fun b => G b ∨ b + 1 = k2) e H' f sz (fun q => if q = p then r else val q) (fun q => if q = p then l' else ch q) := by
  obtain ⟨nm, h1, h2, h3⟩ := h.ex
  refine ⟨nm p, h1 p, h3 p, fun H' k2 r l' s hr hk => ⟨fun q => if q = p then k2 else nm q, fun q => ?_, fun a b hab => ?_, fun q b hb => ?_⟩⟩
  · by_cases hq : q = p
    · simp only [hq, if_true]; exact hr
    · simp only [hq, if_false]
      exact (h1 q).upL s (DL.cons (h2 q p hq) DL.nil)
  · by_cases ha : a = p <;> by_cases hb : b = p
    · exact absurd (ha.trans hb.symm) hab
    · simp only [ha, hb, if_true, if_false]; exact (Dj.app (h2 b p hb) (h1 b).le hk).symm
    · simp only [ha, hb, if_true, if_false]; exact Dj.app (h2 a p ha) (h1 a).le hk
    · simp only [ha, hb, if_false]; exact h2 a b hab
  · by_cases hq : q = p
    · simp only [hq, if_true] at hb; exact .inr hb
    · simp only [hq, if_false] at hb; exact .inl (h3 q b hb)
end
end Go.Proofs.Ytepdhokpfecdnaa.E
/-
  Towards the order of commits: what is counted, what is ready.
-/
namespace Go.Proofs.Ytepdhokpfecdnaa.GraG
open Go.Proofs.Ytepdhokpfecdnaa.E Go.RowKit Go.Proofs.Ytepdhokpfecdnaa.GraA Go.Proofs.Ytepdhokpfecdnaa.GraB Go.Proofs.Ytepdhokpfecdnaa.GraC Go.Proofs.Ytepdhokpfecdnaa.GraD Go.Proofs.Ytepdhokpfecdnaa.GraE Go.Proofs.Ytepdhokpfecdnaa.GraF
set_option maxRecDepth 20000
set_option linter.unusedVariables false
set_option linter.unusedSimpArgs false
set_option linter.unusedSectionVars false

def vOf (mc : List (Ide × Value)) (p : Ide) : Value := (mget mc p).getD nilS
theorem vOf_put (mc : List (Ide × Value)) (p : Ide) (v : Value) : vOf (mput mc p v) = fun q => if q = p then v else vOf mc q := by
  funext q
  unfold vOf
  rw [mget_put]
  split <;> rfl
/-- how many of these are of K and not of D -/
def cntI (K D ps : List Ide) : Nat := (ps.filter (fun p => decide (p ∈ K ∧ p ∉ D))).length
theorem cntI_zero {K D ps : List Ide} : cntI K D ps = 0 ↔ ∀ p ∈ ps, p ∈ K → p ∈ D := by
  unfold cntI
  rw [List.length_eq_zero_iff, List.filter_eq_nil_iff]
  constructor
  · intro h p hp hk
    have := h p hp
    simp only [decide_eq_true_eq, not_and, Decidable.not_not] at this
    exact this hk
  · intro h p hp
    simp only [decide_eq_true_eq, not_and, Decidable.not_not]
    exact h p hp
theorem cntI_snoc (K D : List Ide) (ps : List Ide) (x : Ide) : cntI K D (ps ++ [x]) = cntI K D ps + if x ∈ K ∧ x ∉ D then 1 else 0 := by
  unfold cntI
  rw [List.filter_append, List.length_append]
  by_cases h : x ∈ K ∧ x ∉ D
  · rw [if_pos h, List.filter_cons_of_pos (by simpa using h)]; rfl
  · rw [if_neg h, List.filter_cons_of_neg (by simpa using h)]; rfl
theorem cntI_le (K D ps : List Ide) : cntI K D ps ≤ ps.length := List.length_filter_le _ _
theorem cntI_split {K D : List Ide} {i : Ide} (hi : i ∈ K) (hd : i ∉ D) : ∀ ps : List Ide, cntI K D ps = cntI K (D ++ [i]) ps + ps.count i
  | [] => rfl
  | p :: ps => by
    have ih := cntI_split hi hd ps
    unfold cntI at ih ⊢
    by_cases hp : p = i
    · subst hp
      rw [List.filter_cons_of_pos (by simp [hi, hd]), List.filter_cons_of_neg (by simp), List.count_cons_self, List.length_cons, ih]; omega
    · have e : (decide (p ∈ K ∧ p ∉ D ++ [i])) = decide (p ∈ K ∧ p ∉ D) := by
        apply decide_eq_decide.2
        simp [hp]
      rw [List.count_cons_of_ne (fun e => hp e)]
      by_cases h : p ∈ K ∧ p ∉ D
      · rw [List.filter_cons_of_pos (by simpa using h), List.filter_cons_of_pos (by rw [e]; simpa using h), List.length_cons, List.length_cons, ih]; omega
      · rw [List.filter_cons_of_neg (by simpa using h), List.filter_cons_of_neg (by rw [e]; simpa using h), ih]
structure P1 (pa : Ide → List Ide) (K dn : List Ide) (L : List (Ide × Int)) (rd : List Ide) (ch : Ide → List Ide) : Prop where
  nd : dn.Nodup
  sub : ∀ k ∈ dn, k ∈ K
  left : ∀ k, mget L k = if k ∈ dn then some ((cntI K [] (pa k) : Nat) : Int) else none
  chi : ∀ p k, (ch p).count k = if p ∈ K ∧ k ∈ dn then (pa k).count p else 0
  chl : ∀ p, (ch p).length ≤ dn.length * 1000
  rdn : rd.Nodup
  rdm : ∀ k, k ∈ rd ↔ k ∈ dn ∧ cntI K [] (pa k) = 0
structure P1b (pa : Ide → List Ide) (K dn : List Ide) (i : Ide) (q cn : Nat) (ch : Ide → List Ide) : Prop where
  cn_ : cn = cntI K [] ((pa i).take q)
  chi : ∀ p k, (ch p).count k = if p ∈ K then (if k ∈ dn then (pa k).count p else if k = i then ((pa i).take q).count p else 0) else 0
  chl : ∀ p, (ch p).length ≤ dn.length * 1000 + q
section
variable {pa : Ide → List Ide} {K dn rd : List Ide} {L : List (Ide × Int)} {ch : Ide → List Ide} {i : Ide} {q cn : Nat}
theorem P1.start (pa : Ide → List Ide) (K : List Ide) : P1 pa K [] [] [] (fun _ => []) := ⟨List.nodup_nil, by simp, fun k => by simp [mget], fun p k => by simp, fun p => by simp, List.nodup_nil, by simp⟩
theorem P1.len (h : P1 pa K dn L rd ch) : rd.length ≤ K.length := nodup_le h.rdn (fun k hk => h.sub k ((h.rdm k).1 hk).1)
theorem P1.dlen (h : P1 pa K dn L rd ch) : dn.length ≤ K.length := nodup_le h.nd h.sub
theorem P1b.start (h : P1 pa K dn L rd ch) (hi : i ∉ dn) : P1b pa K dn i 0 0 ch := by
  refine ⟨rfl, fun p k => ?_, fun p => h.chl p⟩
  rw [h.chi]
  by_cases hp : p ∈ K <;> by_cases hk : k ∈ dn <;> simp [hp, hk]
theorem P1b.yes (h : P1b pa K dn i q cn ch) (hi : i ∉ dn) (hq : q < (pa i).length) (hk : (pa i)[q] ∈ K) : P1b pa K dn i (q + 1) (cn + 1) (fun p => if p = (pa i)[q] then ch (pa i)[q] ++ [i] else ch p) := by
  have hts := List.take_succ_eq_append_getElem hq
  refine ⟨?_, fun p k => ?_, fun p => ?_⟩
  · rw [hts, cntI_snoc, if_pos ⟨hk, by simp⟩, h.cn_]
  · have h0 := h.chi p k
    by_cases hp : p = (pa i)[q]
    · subst hp
      rw [if_pos rfl, List.count_append, h0, hts, if_pos hk, if_pos hk]
      by_cases hkd : k ∈ dn
      · have : k ≠ i := fun e => hi (e ▸ hkd)
        rw [if_pos hkd, if_pos hkd, List.count_cons_of_ne (fun e => this e.symm)]; rfl
      · rw [if_neg hkd, if_neg hkd]
        by_cases hki : k = i
        · subst hki
          rw [if_pos rfl, if_pos rfl, List.count_append, List.count_cons_self, List.count_cons_self]; rfl
        · rw [if_neg hki, if_neg hki, List.count_cons_of_ne (fun e => hki e.symm)]; rfl
    · rw [if_neg hp, h0, hts, List.count_append, List.count_cons_of_ne (fun e => hp e.symm)]; rfl
  · have h0 := h.chl p
    have h1 := h.chl (pa i)[q]
    split
    · rw [List.length_append, List.length_singleton]; omega
    · omega
theorem P1b.no (h : P1b pa K dn i q cn ch) (hq : q < (pa i).length) (hk : (pa i)[q] ∉ K) : P1b pa K dn i (q + 1) cn ch := by
  have hts := List.take_succ_eq_append_getElem hq
  refine ⟨?_, fun p k => ?_, fun p => by have := h.chl p; omega⟩
  · rw [hts, cntI_snoc, if_neg (fun h => hk h.1), h.cn_]; rfl
  · rw [h.chi, hts, List.count_append]
    by_cases hp : p ∈ K
    · have : p ≠ (pa i)[q] := fun e => hk (e ▸ hp)
      rw [List.count_cons_of_ne (fun e => this e.symm)]; rfl
    · rw [if_neg hp, if_neg hp]
theorem P1.next (h : P1 pa K dn L rd ch) (hi : i ∉ dn) (hik : i ∈ K) {ch2 : Ide → List Ide} (h2 : P1b pa K dn i (pa i).length cn ch2) (hpl : (pa i).length ≤ 1000) {rd2 : List Ide} (hr : rd2 = if cn = 0 then rd ++ [i] else rd) : P1 pa K (dn ++ [i]) (mput L i (cn : Int)) rd2 ch2 := by
  have hcn : cn = cntI K [] (pa i) := by rw [h2.cn_, List.take_length]
  refine ⟨?_, fun k hk => ?_, fun k => ?_, fun p k => ?_, fun p => ?_, ?_, fun k => ?_⟩
  · rw [List.nodup_append]
    exact ⟨h.nd, by simp, fun a ha b hb e => by simp only [List.mem_singleton] at hb; subst hb; subst e; exact hi ha⟩
  · rcases List.mem_append.1 hk with hk | hk
    · exact h.sub k hk
    · simp only [List.mem_singleton] at hk; subst hk; exact hik
  · rw [mget_put, h.left]
    by_cases hk : k = i
    · subst hk; rw [if_pos rfl, if_pos (by simp), hcn]
    · rw [if_neg hk]
      have : k ∈ dn ++ [i] ↔ k ∈ dn := by simp [hk]
      by_cases hd : k ∈ dn
      · rw [if_pos hd, if_pos (this.2 hd)]
      · rw [if_neg hd, if_neg (fun q => hd (this.1 q))]
  · rw [h2.chi]
    by_cases hp : p ∈ K
    · rw [if_pos hp, List.take_length]
      by_cases hd : k ∈ dn
      · rw [if_pos hd, if_pos ⟨hp, List.mem_append_left _ hd⟩]
      · rw [if_neg hd]
        by_cases hk : k = i
        · subst hk; rw [if_pos rfl, if_pos ⟨hp, by simp⟩]
        · rw [if_neg hk, if_neg (fun q => by have := q.2; simp [hd, hk] at this)]
    · rw [if_neg hp, if_neg (fun q => hp q.1)]
  · have := h2.chl p
    rw [List.length_append, List.length_singleton, Nat.add_mul]; omega
  · subst hr
    split
    · rw [List.nodup_append]
      exact ⟨h.rdn, by simp, fun a ha b hb e => by simp only [List.mem_singleton] at hb; subst hb; subst e; exact hi ((h.rdm a).1 ha).1⟩
    · exact h.rdn
  · subst hr
    have h0 := h.rdm k
    by_cases hk : k = i
    · subst hk
      constructor
      · intro hm
        refine ⟨by simp, ?_⟩
        split at hm
        · rw [← hcn]; assumption
        · exact absurd (h0.1 hm).1 hi
      · rintro ⟨_, hz⟩
        rw [if_pos (by rw [hcn]; exact hz)]; simp
    · have e1 : k ∈ (if cn = 0 then rd ++ [i] else rd) ↔ k ∈ rd := by split <;> simp [hk]
      have e2 : k ∈ dn ++ [i] ↔ k ∈ dn := by simp [hk]
      rw [e1, e2]; exact h0
end
/-- done so far: each behind its parents, the lowest that is ready first -/
structure P2 (pa : Ide → List Ide) (K D : List Ide) : Prop where
  dnd : D.Nodup
  dsub : ∀ k ∈ D, k ∈ K
  par : ∀ j (h : j < D.length), ∀ p ∈ pa D[j], p ∈ K → p ∈ D.take j
  low : ∀ j (h : j < D.length), ∀ y ∈ K, y ∉ D.take j → (∀ p ∈ pa y, p ∈ K → p ∈ D.take j) → ¬ ltA y D[j]
structure P3 (pa : Ide → List Ide) (K D c : List Ide) (L : List (Ide × Int)) (rd : List Ide) : Prop where
  left : ∀ k ∈ K, mget L k = some ((cntI K D (pa k) + c.count k : Nat) : Int)
  ris : Ris rd
  rdm : ∀ k, k ∈ rd ↔ k ∈ K ∧ k ∉ D ∧ cntI K D (pa k) + c.count k = 0
section
variable {pa : Ide → List Ide} {K D c rd : List Ide} {L : List (Ide × Int)} {ch : Ide → List Ide} {i : Ide} {rk : Ide → Nat}
theorem P2.start : P2 pa K [] := ⟨List.nodup_nil, by simp, fun j h => by simp at h, fun j h => by simp at h⟩
theorem ris_of {l l2 : List Ide} (hn : l.Nodup) (hp : l2.Perm l) (hs : l2.Pairwise (fun x y => ¬ cA y x < 0)) : Ris l2 := by
  have hn2 : l2.Nodup := hp.nodup_iff.2 hn
  rw [List.nodup_iff_pairwise_ne] at hn2
  unfold Ris
  refine (hs.and hn2).imp ?_
  rintro a b ⟨h1, h2⟩
  by_cases h : ltA a b
  · exact h
  · exact absurd (ltA_tot h (fun q => h1 (cA_neg.2 q))) h2
theorem P3.start {dn rd2 : List Ide} (h : P1 pa K dn L rd ch) (hall : ∀ k ∈ K, k ∈ dn) (hp : rd2.Perm rd) (hs : rd2.Pairwise (fun x y => ¬ cA y x < 0)) : P3 pa K [] [] L rd2 := by
  refine ⟨fun k hk => ?_, ris_of h.rdn hp hs, fun k => ?_⟩
  · rw [h.left, if_pos (hall k hk)]; rfl
  · rw [hp.mem_iff, h.rdm]
    constructor
    · rintro ⟨h1, h2⟩; exact ⟨h.sub k h1, by simp, by simpa using h2⟩
    · rintro ⟨h1, _, h2⟩; exact ⟨hall k h1, by simpa using h2⟩
theorem P3.pop {r2 : List Ide} (h : P3 pa K D [] L (i :: r2)) (hc : ∀ k, c.count k = if k ∈ K then (pa k).count i else 0) : P3 pa K (D ++ [i]) c L r2 := by
  have hi := (h.rdm i).1 List.mem_cons_self
  have hr : Ris (i :: r2) := h.ris
  have hn := ris_nodup hr
  rw [List.nodup_cons] at hn
  have e : ∀ k ∈ K, cntI K D (pa k) + ([] : List Ide).count k = cntI K (D ++ [i]) (pa k) + c.count k := fun k hk => by
    rw [cntI_split hi.1 hi.2.1, hc, if_pos hk]; rfl
  refine ⟨fun k hk => by rw [h.left k hk, e k hk], by unfold Ris at hr ⊢; exact (List.pairwise_cons.1 hr).2, fun k => ?_⟩
  have h0 := h.rdm k
  constructor
  · intro hk
    have h1 := h0.1 (List.mem_cons_of_mem _ hk)
    refine ⟨h1.1, ?_, by rw [← e k h1.1]; exact h1.2.2⟩
    intro hd
    rcases List.mem_append.1 hd with hd | hd
    · exact h1.2.1 hd
    · simp only [List.mem_singleton] at hd; subst hd; exact hn.1 hk
  · rintro ⟨h1, h2, h3⟩
    have h4 := h0.2 ⟨h1, fun hd => h2 (List.mem_append_left _ hd), by rw [e k h1]; exact h3⟩
    rcases List.mem_cons.1 h4 with h4 | h4
    · subst h4; exact absurd (by simp) h2
    · exact h4
theorem P2.next {r2 : List Ide} (h : P2 pa K D) (h3 : P3 pa K D [] L (i :: r2)) : P2 pa K (D ++ [i]) := by
  have hi := (h3.rdm i).1 List.mem_cons_self
  have hcz : ∀ p ∈ pa i, p ∈ K → p ∈ D := cntI_zero.1 (by have := hi.2.2; omega)
  refine ⟨?_, fun k hk => ?_, fun j hj p hp hk => ?_, fun j hj y hy hyd hyp hl => ?_⟩
  · rw [List.nodup_append]
    exact ⟨h.dnd, by simp, fun a ha b hb e => by simp only [List.mem_singleton] at hb; subst hb; subst e; exact hi.2.1 ha⟩
  · rcases List.mem_append.1 hk with hk | hk
    · exact h.dsub k hk
    · simp only [List.mem_singleton] at hk; subst hk; exact hi.1
  · by_cases hjd : j < D.length
    · rw [List.getElem_append_left hjd] at hp
      rw [List.take_append_of_le_length (by omega)]
      exact h.par j hjd p hp hk
    · have hje : j = D.length := by simp at hj; omega
      subst hje
      rw [List.getElem_concat_length rfl] at hp
      rw [List.take_left' rfl]
      exact hcz p hp hk
  · by_cases hjd : j < D.length
    · rw [List.getElem_append_left hjd] at hl
      rw [List.take_append_of_le_length (by omega)] at hyd hyp
      exact h.low j hjd y hy hyd hyp hl
    · have hje : j = D.length := by simp at hj; omega
      subst hje
      rw [List.getElem_concat_length rfl] at hl
      rw [List.take_left' rfl] at hyd hyp
      have hyr : y ∈ i :: r2 := (h3.rdm y).2 ⟨hy, hyd, by rw [cntI_zero.2 hyp]; rfl⟩
      rcases List.mem_cons.1 hyr with e | e
      · subst e; exact ltA_irr _ hl
      · have hr : Ris (i :: r2) := h3.ris
        unfold Ris at hr
        exact ltA_asym hl ((List.pairwise_cons.1 hr).1 y e)
theorem kid_fresh {k : Ide} (h : P2 pa K D) (hi : i ∈ K) (hid : i ∉ D) (hac : ∀ k, ∀ p ∈ pa k, rk p < rk k) (hk : i ∈ pa k) : k ∉ D ++ [i] := by
  intro hd
  rcases List.mem_append.1 hd with hd | hd
  · obtain ⟨j, hj, rfl⟩ := List.getElem_of_mem hd
    exact hid (List.mem_of_mem_take (h.par j hj i hk hi))
  · simp only [List.mem_singleton] at hd; subst hd
    have := hac k k hk; omega
theorem P3.less {k : Ide} {c : List Ide} {n : Nat} (h : P3 pa K D (k :: c) L rd) (hk : k ∈ K) (hn : cntI K D (pa k) + c.count k = n) (hn0 : n ≠ 0) : P3 pa K D c (mput L k (n : Int)) rd := by
  have hc : ∀ y, y ≠ k → (k :: c).count y = c.count y := fun y hy => List.count_cons_of_ne (fun e => hy e.symm)
  refine ⟨fun y hy => ?_, h.ris, fun y => ?_⟩
  · rw [mget_put]
    by_cases e : y = k
    · subst e; rw [if_pos rfl, hn]
    · rw [if_neg e, h.left y hy, hc y e]
  · rw [h.rdm]
    by_cases e : y = k
    · subst e
      rw [List.count_cons_self]
      constructor
      · rintro ⟨_, _, h3⟩; omega
      · rintro ⟨_, _, h3⟩; omega
    · rw [hc y e]
theorem P3.zero {k : Ide} {c : List Ide} {at_ : Nat} (h : P3 pa K D (k :: c) L rd) (hk : k ∈ K) (hkd : k ∉ D) (hn : cntI K D (pa k) + c.count k = 0) (ha : at_ ≤ rd.length ∧ (∀ j (h : j < rd.length), j < at_ → ltA rd[j] k) ∧ (∀ j (h : j < rd.length), at_ ≤ j → ¬ ltA rd[j] k)) : P3 pa K D c (mput L k 0) (rd.take at_ ++ k :: rd.drop at_) := by
  have hc : ∀ y, y ≠ k → (k :: c).count y = c.count y := fun y hy => List.count_cons_of_ne (fun e => hy e.symm)
  have hkr : k ∉ rd := fun hm => by
    have := ((h.rdm k).1 hm).2.2
    rw [List.count_cons_self] at this; omega
  have hris := h.ris
  refine ⟨fun y hy => ?_, ?_, fun y => ?_⟩
  · rw [mget_put]
    by_cases e : y = k
    · subst e; rw [if_pos rfl, hn]; rfl
    · rw [if_neg e, h.left y hy, hc y e]
  · unfold Ris at hris ⊢
    rw [List.pairwise_append]
    refine ⟨hris.sublist (List.take_sublist _ _), ?_, ?_⟩
    · rw [List.pairwise_cons]
      refine ⟨fun y hy => ?_, hris.sublist (List.drop_sublist _ _)⟩
      obtain ⟨j, hj, rfl⟩ := List.getElem_of_mem hy
      rw [List.getElem_drop]
      rw [List.length_drop] at hj
      by_cases h1 : ltA k rd[at_ + j]
      · exact h1
      · exact absurd (ltA_tot h1 (ha.2.2 (at_ + j) (by omega) (by omega))) (fun e => hkr (e ▸ List.getElem_mem _))
    · intro a hm b hb
      have hak : ltA a k := by
        obtain ⟨j, hj, rfl⟩ := List.getElem_of_mem hm
        rw [List.getElem_take]
        rw [List.length_take] at hj
        exact ha.2.1 j (by omega) (by omega)
      rcases List.mem_cons.1 hb with e | e
      · subst e; exact hak
      · rw [← List.take_append_drop at_ rd, List.pairwise_append] at hris
        exact hris.2.2 a hm b e
  · have hm : y ∈ rd.take at_ ++ k :: rd.drop at_ ↔ y = k ∨ y ∈ rd := by
      conv => rhs; rw [← List.take_append_drop at_ rd]
      simp only [List.mem_append, List.mem_cons]
      constructor
      · rintro (h | h | h)
        · exact .inr (.inl h)
        · exact .inl h
        · exact .inr (.inr h)
      · rintro (h | h | h)
        · exact .inr (.inl h)
        · exact .inl h
        · exact .inr (.inr h)
    rw [hm]
    by_cases e : y = k
    · subst e
      exact ⟨fun _ => ⟨hk, hkd, hn⟩, fun _ => .inl rfl⟩
    · rw [← hc y e, ← h.rdm]
      exact ⟨fun q => q.resolve_left e, .inr⟩
/-- the order of commits -/
structure Topo (pa : Ide → List Ide) (K out : List Ide) : Prop extends P2 pa K out where
  all : ∀ k ∈ K, k ∈ out
theorem P2.done (h : P2 pa K D) (h3 : P3 pa K D [] L []) (hac : ∀ k, ∀ p ∈ pa k, rk p < rk k) : Topo pa K D := by
  refine ⟨h, ?_⟩
  have key : ∀ n k, rk k < n → k ∈ K → k ∈ D := by
    intro n
    induction n with
    | zero => intro k hk; omega
    | succ n ih =>
      intro k hk hkK
      by_cases hd : k ∈ D
      · exact hd
      · have hz := cntI_zero (K := K) (D := D) (ps := pa k)
        have : cntI K D (pa k) = 0 := hz.2 (fun p hp hpK => ih p (by have := hac k p hp; omega) hpK)
        have := (h3.rdm k).2 ⟨hkK, hd, by rw [this]; rfl⟩
        cases this
  exact fun k hk => key (rk k + 1) k (by omega) hk
/-- there is one such order -/
theorem topo_one {a b : List Ide} (ha : Topo pa K a) (hb : Topo pa K b) : a = b := by
  have hlen : a.length = b.length := Nat.le_antisymm (nodup_le ha.dnd (fun x hx => hb.all x (ha.dsub x hx))) (nodup_le hb.dnd (fun x hx => ha.all x (hb.dsub x hx)))
  have key : ∀ n, n ≤ a.length → a.take n = b.take n := by
    intro n
    induction n with
    | zero => intro _; rfl
    | succ n ih =>
      intro hn
      have e := ih (by omega)
      rw [List.take_succ_eq_append_getElem (show n < a.length by omega), List.take_succ_eq_append_getElem (show n < b.length by omega), e]
      have hna : a[n] ∉ a.take n := fun hm => by
        obtain ⟨j, hj, he⟩ := List.getElem_of_mem hm
        rw [List.getElem_take] at he
        rw [List.length_take] at hj
        have := (List.getElem_inj ha.dnd).1 he
        omega
      have hnb : b[n] ∉ b.take n := fun hm => by
        obtain ⟨j, hj, he⟩ := List.getElem_of_mem hm
        rw [List.getElem_take] at he
        rw [List.length_take] at hj
        have := (List.getElem_inj hb.dnd).1 he
        omega
      have h1 := ha.low n (by omega) b[n] (hb.dsub _ (List.getElem_mem _)) (by rw [e]; exact hnb) (by rw [e]; exact hb.par n (by omega))
      have h2 := hb.low n (by omega) a[n] (ha.dsub _ (List.getElem_mem _)) (by rw [← e]; exact hna) (by rw [← e]; exact ha.par n (by omega))
      rw [ltA_tot h2 h1]
  have := key a.length (Nat.le_refl _)
  rw [List.take_length, hlen, List.take_length] at this
  exact this
end

end Go.Proofs.Ytepdhokpfecdnaa.GraG
