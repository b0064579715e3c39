/-
  The disk: the statements' known example, and their helpers.
-/
import Derived.Shelf.Vars
import Derived.Test.YtfbfjhppppoilaaDoorSimQ
namespace Go.Proofs.YtfbfjhppppoilaaDoor.SimR
open Go.Proofs.YtfbfjhppppoilaaDoor.E Go.RowKit Go.Proofs.YtfbfjhppppoilaaDoor.SimA Go.Proofs.YtfbfjhppppoilaaDoor.SimB Go.Proofs.YtfbfjhppppoilaaDoor.SimC Go.Proofs.YtfbfjhppppoilaaDoor.SimD Go.Proofs.YtfbfjhppppoilaaDoor.SimE Go.Proofs.YtfbfjhppppoilaaDoor.SimF Go.Proofs.YtfbfjhppppoilaaDoor.SimG Go.Proofs.YtfbfjhppppoilaaDoor.SimH Go.Proofs.YtfbfjhppppoilaaDoor.SimI Go.Proofs.YtfbfjhppppoilaaDoor.SimJ Go.Proofs.YtfbfjhppppoilaaDoor.SimK Go.Proofs.YtfbfjhppppoilaaDoor.SimL Go.Proofs.YtfbfjhppppoilaaDoor.SimM Go.Proofs.YtfbfjhppppoilaaDoor.SimN Go.Proofs.YtfbfjhppppoilaaDoor.SimP Go.Proofs.YtfbfjhppppoilaaDoor.SimQ
set_option maxRecDepth 20000
set_option linter.unusedVariables false
set_option linter.unusedSimpArgs false
set_option linter.unusedSectionVars false
set_option maxRecDepth 100000 in
theorem inf25 : Inf Tryd.prog 25 5 1 1 := ⟨Tryd.underlying25, _, _, rfl, rfl, rfl, rfl, rfl⟩
set_option maxRecDepth 100000 in
theorem inf35 : Inf Tryd.prog 35 3 1 8 := ⟨Tryd.underlying35, _, _, rfl, rfl, rfl, rfl, rfl⟩
set_option maxRecDepth 100000 in
theorem inf42 : Inf Tryd.prog 42 9 1 16 := ⟨Tryd.underlying42, _, _, rfl, rfl, rfl, rfl, rfl⟩
theorem mx_of {W : World} (h : W.ShapedOpen Tryd.prog) : ∃ m, MX m W.heap ∧ BF (fun b => b = 0) W.heap.size := by
  obtain ⟨m, hm⟩ := cell_of_shapedOpen_int (g := 0) (t := 3) (zero := #[.int .i64 0]) h (by decide) (by kernel_rfl) rfl (by kernel_rfl) (by kernel_rfl) Tryd.underlying3
  have hc : E.cell W.heap ⟨0, 0, none⟩ = some (.int .i64 m) := by rw [← (At.cell (w0 := W) ⟨rfl, rfl, rfl, rfl, Nat.le_refl _⟩ _)]; exact hm
  refine ⟨m, ⟨⟨rfl, fun j c hj => ?_⟩, rfl⟩, fun b hb => ?_⟩
  · cases j with
    | zero => cases hj; exact hc
    | succ j => cases hj
  · have := World.block_lt_of_cell? W _ hm; simp only at hb; omega

section
variable {P : Program} {w0 : World} {n : Nat} {l : FL} {H : Heap} {o : Oper}
theorem _root_.Go.Proofs.YtfbfjhppppoilaaDoor.E.Y.bneq {x y : Operand} {t u : TypeId} {a b : Bool} (ho : o.op = .binOp .neq t x y u) (ht : P.underlying t = some .bool) (hx : opv l x = some (.bool a)) (hy : opv l y = some (.bool b)) : Y P w0 n l H o (.bool (decide (a ≠ b))) := by
  intro ac w hf ha
  have h := run_equalIn_bool' w 9999 t a b ht
  have h2 : (a == b) = decide (a = b) := by cases a <;> cases b <;> rfl
  rw [h2] at h
  simp [execOp, ho, hf.eval hx, hf.eval hy, binOp, eqGuard, Op.equal, Op.maxDepth, h]
end


theorem DFL.of {k : Nat} {K : List Nat} (d : DL k K) : DFL (fun b => b + 1 = k) K := fun j hj => DF.of (d j hj)
def wiN (a : Int) (n : Nat) : Nat := (a % (n : Int)).toNat
theorem wiN_lt {a : Int} {n : Nat} (h : 0 < n) : wiN a n < n := by
  unfold wiN
  have := Int.emod_lt_of_pos a (show (0 : Int) < n by omega)
  have := Int.emod_nonneg a (show (n : Int) ≠ 0 by omega)
  omega
theorem wiN_neg {a : Int} {n : Nat} (h : 0 < n) (h2 : a.tmod n < 0) : ((wiN a n : Nat) : Int) = a.tmod n + n := by
  unfold wiN
  have h3 := Int.emod_nonneg a (show (n : Int) ≠ 0 by omega)
  rw [Int.toNat_of_nonneg h3]
  rw [Int.tmod_eq_emod] at h2 ⊢
  split at h2
  · omega
  · rename_i h4; rw [if_neg h4]; simp
theorem wiN_pos {a : Int} {n : Nat} (h : 0 < n) (h2 : ¬ a.tmod n < 0) : ((wiN a n : Nat) : Int) = a.tmod n := by
  unfold wiN
  have h3 := Int.emod_nonneg a (show (n : Int) ≠ 0 by omega)
  have h5 := Int.emod_lt_of_pos a (show (0 : Int) < n by omega)
  rw [Int.toNat_of_nonneg h3]
  rw [Int.tmod_eq_emod] at h2 ⊢
  split at h2
  · rename_i h4; rw [if_pos h4]; simp
  · rename_i h4
    simp only [Int.natAbs_natCast] at h2
    omega
def paths : List Pth := [[97], [98], [100, 47, 97], [100, 47, 98], [100, 47, 101, 47, 97]]
def pathN (a : Int) : Pth := paths.getD (wiN a 5) []

theorem within_ct (a : Int) (n : Nat) (w0 : World) (H0 : Heap)
    (hn : 1 ≤ n ∧ n ≤ 4611686018427387904) (ha : -9223372036854775808 ≤ a ∧ a ≤ 9223372036854775807) :
    Ct Tryd.prog w0 20 #[.int .i64 a, .int .i64 (n : Int)] H0 (fun r H2 => r = .int .i64 (wiN a n : Int) ∧ Nw H0 H2) := by
  refine Ct.enter (args := [.int .i64 a, .int .i64 (n : Int)]) Tryd.func20 rfl rfl rfl ?_
  intro Q0 hret
  have hm0 : Nw H0 H0 := Mo.refl _ _
  refine CW.seq (fun K1 hK1 hE1 => ?_)
  refine CW.region ?_
  refine LR.v (Y.assign rfl rfl) (Wd.u rfl) rfl rfl ?_
  refine LR.nil ?_
  refine hK1 _ _ ?_
  refine CW.seq (fun K2 hK2 hE2 => ?_)
  refine CW.region ?_
  refine LR.v (Y.move rfl rfl) (Wd.u rfl) rfl rfl ?_
  refine LR.v (Y.move rfl rfl) (Wd.u rfl) rfl rfl ?_
  refine LR.v (Y.rem rfl rfl rfl (by omega)) (Wd.u rfl) rfl rfl ?_
  have ht1 := Int.tmod_lt_of_pos a (show (0 : Int) < n by omega)
  have ht2 := Int.lt_tmod_of_pos a (show (0 : Int) < n by omega)
  refine LR.v (Y.assign rfl rfl) (Wd.u rfl) rfl rfl ?_
  refine LR.nil ?_
  refine hK2 _ _ ?_
  refine CW.seq (fun K3 hK3 hE3 => ?_)
  refine CW.seq (fun K4 hK4 hE4 => ?_)
  refine CW.region ?_
  refine LR.v (Y.move rfl rfl) (Wd.u rfl) rfl rfl ?_
  refine LR.v (Y.lss rfl rfl rfl) (Wd.u rfl) rfl rfl ?_
  refine LR.nil ?_
  refine hK4 _ _ ?_
  refine CW.condp rfl (fun c10 => ?_) (fun c10 => ?_)
  ·
    refine CW.region ?_
    refine LR.v (Y.move rfl rfl) (Wd.u rfl) rfl rfl ?_
    refine LR.v (Y.move rfl rfl) (Wd.u rfl) rfl rfl ?_
    refine LR.v (Y.addi rfl rfl rfl (by omega)) (Wd.u rfl) rfl rfl ?_
    refine LR.v (Y.assign rfl rfl) (Wd.u rfl) rfl rfl ?_
    refine LR.nil ?_
    refine hK3 _ _ ?_
    refine CW.seq (fun K5 hK5 hE5 => ?_)
    refine CW.region ?_
    refine LR.v (Y.move rfl rfl) (Wd.u rfl) rfl rfl ?_
    refine LR.v (Y.assign rfl rfl) (Wd.u rfl) rfl rfl ?_
    refine LR.nil ?_
    refine hK5 _ _ ?_
    refine CW.ret (hret .ret (.inr rfl) _ _ _ (res1 rfl rfl) ?_)
    exact ⟨by rw [wiN_neg (by omega) (by omega)], hm0⟩
  ·
    refine CW.skip ?_
    refine hK3 _ _ ?_
    refine CW.seq (fun K6 hK6 hE6 => ?_)
    refine CW.region ?_
    refine LR.v (Y.move rfl rfl) (Wd.u rfl) rfl rfl ?_
    refine LR.v (Y.assign rfl rfl) (Wd.u rfl) rfl rfl ?_
    refine LR.nil ?_
    refine hK6 _ _ ?_
    refine CW.ret (hret .ret (.inr rfl) _ _ _ (res1 rfl rfl) ?_)
    exact ⟨by rw [wiN_pos (by omega) (by omega)], hm0⟩

theorem path_ct (a : Int) (w0 : World) (H0 : Heap)
    (ha : -9223372036854775808 ≤ a ∧ a ≤ 9223372036854775807) :
    Ct Tryd.prog w0 22 #[.int .i64 a] H0 (fun r H2 => r = Str (pathN a) ∧ Nw H0 H2) := by
  refine Ct.enter (args := [.int .i64 a]) Tryd.func22 rfl rfl rfl ?_
  intro Q0 hret
  have hm0 : Nw H0 H0 := Mo.refl _ _
  refine CW.seq (fun K1 hK1 hE1 => ?_)
  refine CW.region ?_
  refine LR.v (Y.assign rfl rfl) (Wd.u rfl) rfl rfl ?_
  refine LR.nil ?_
  refine hK1 _ _ ?_
  refine CW.seq (fun K2 hK2 hE2 => ?_)
  refine CW.region ?_
  refine LR.z (Z.litw _ (paths) rfl inf42 rfl rfl rfl (by decide) (by decide) fS_len fS_one (rfl)) (Wd.u rfl) rfl rfl (fun v3 H3 r3 => ?_)
  obtain ⟨ow3, hs3, ob3, hH3⟩ := r3
  have hzs3 : H3.size = H0.size + 1 := by rw [hH3]; simp
  have nx1 : Nx 0 H0.size (H0.size + 1) := Nx.new hm0.size
  replace hm0 := hm0.tr hs3
  have hz1 := hs3.size
  refine LR.v (Y.move rfl rfl) (Wd.u rfl) rfl rfl ?_
  -- call selvage/selvagelaw2.within
  refine LR.call rfl Tryd.call20 rfl (Wd.u rfl) rfl rfl (within_ct a 5 w0 _ (by omega) ha) (fun v5 H5 r5 => ?_)
  obtain ⟨rfl, hs5⟩ := r5
  replace ow3 := ow3.nw hs5
  replace hm0 := hm0.tr hs5
  have hz2 := hs5.size
  have hwl := wiN_lt (a := a) (show 0 < 5 by omega)
  refine LR.v (Y.owAddr ow3 (wiN a 5) rfl Tryd.runUnderlying42 Tryd.sizeOf9 rfl rfl (by first | rfl | omega) (by show wiN a 5 < 5; omega)) (Wd.u rfl) rfl rfl ?_
  refine LR.v (Y.cast (v2 := Str (pathN a)) (Y.load1 (ow3.pt (j := wiN a 5) (by show wiN a 5 < 5; omega)) rfl Tryd.isAgg9 rfl) (by unfold pathN; rw [List.getD_eq_getElem?_getD, List.getElem?_eq_getElem (by show wiN a 5 < 5; omega)]; rfl)) (Wd.u rfl) rfl rfl ?_
  refine LR.v (Y.assign rfl rfl) (Wd.u rfl) rfl rfl ?_
  refine LR.nil ?_
  refine hK2 _ _ ?_
  refine CW.ret (hret .ret (.inr rfl) _ _ _ (res1 rfl rfl) ?_)
  exact ⟨rfl, hm0⟩

set_option maxHeartbeats 4000000 in
theorem known_ct (mx_ : Int) (w0 : World) (H0 : Heap)
    (mx : MX mx_ H0) (bf_mx : BF (fun b => b = 0) H0.size) :
    Ct Tryd.prog w0 11 #[] H0 (fun r H2 => r = .bool true ∧ Nw H0 H2) := by
  refine Ct.enter (args := []) Tryd.func11 rfl rfl rfl ?_
  intro Q0 hret
  have hm0 : Nw H0 H0 := Mo.refl _ _
  refine CW.seq (fun K1 hK1 hE1 => ?_)
  refine CW.region ?_
  refine LR.v (Y.assign rfl rfl) (Wd.u rfl) rfl rfl ?_
  refine LR.nil ?_
  refine hK1 _ _ ?_
  refine CW.seq (fun K2 hK2 hE2 => ?_)
  refine CW.region ?_
  -- call selvage/simfs.New
  refine LR.call rfl Tryd.call16 rfl (Wd.u rfl) rfl rfl (new_ct 100 50 w0 _ (by decide) (by decide)) (fun v7 H7 r7 => ?_)
  obtain ⟨K7, g7, b7, rfl, hf, hkn7, hs7⟩ := r7
  have df1 := DFL.appK (DFL.nil) (bf_mx.mono hm0.size) hkn7
  have nx2 : NxK [] H0.size K7 := NxK.tr (NxK.refl [] _) hkn7 hm0.size
  replace mx := mx.nw hs7
  replace hm0 := hm0.tr hs7
  have hz1 := hs7.size
  have hbk_hf := hf.bk
  have hS7 := Bs.empty 100 50
  refine LR.v (Y.move rfl rfl) (Wd.u rfl) rfl rfl ?_
  refine LR.v (Y.extract rfl rfl rfl) (Wd.u rfl) rfl rfl ?_
  refine LR.v (Y.extract rfl rfl rfl) (Wd.u rfl) rfl rfl ?_
  refine LR.v (Y.assign rfl rfl) (Wd.u rfl) rfl rfl ?_
  refine LR.v (Y.assign rfl rfl) (Wd.u rfl) rfl rfl ?_
  refine LR.nil ?_
  refine hK2 _ _ ?_
  refine CW.seq (fun K3 hK3 hE3 => ?_)
  refine CW.seq (fun K4 hK4 hE4 => ?_)
  refine CW.region ?_
  refine LR.v (Y.move rfl rfl) (Wd.u rfl) rfl rfl ?_
  refine LR.v ((Y.neq rfl rfl rfl).isF ((fun h => h rfl))) (Wd.u rfl) rfl rfl ?_
  refine LR.v (Y.move rfl rfl) (Wd.u rfl) rfl rfl ?_
  refine LR.v (Y.move rfl rfl) (Wd.g rfl rfl rfl) rfl rfl ?_
  refine LR.v (Y.peq rfl (by kernel_rfl) (by kernel_rfl) rfl rfl) (Wd.g rfl rfl rfl) rfl rfl ?_
  refine LR.v (Y.pick_f rfl rfl rfl) (Wd.u rfl) rfl rfl ?_
  refine LR.nil ?_
  refine hK4 _ _ ?_
  refine CW.cond_f rfl ?_
  refine CW.skip ?_
  refine hK3 _ _ ?_
  refine CW.seq (fun K5 hK5 hE5 => ?_)
  refine CW.region ?_
  refine LR.v (Y.move rfl rfl) (Wd.u rfl) rfl rfl ?_
  refine LR.z (Z.litw _ (([97, 98] : List UInt8)) rfl inf25 rfl rfl rfl (by decide) (by decide) fB_len fB_one (rfl)) (Wd.u rfl) rfl rfl (fun v17 H17 r17 => ?_)
  obtain ⟨ow17, hs17, ob17, hH17⟩ := r17
  have hzs17 : H17.size = H7.size + 1 := by rw [hH17]; simp
  have df3 := (DF.new (bf_mx.mono hm0.size) : DF _ (H7.size + 1))
  have dj4 : DL (H7.size + 1) K7 := DL.newK hf.bk
  have nx5 : Nx 0 H0.size (H7.size + 1) := Nx.new hm0.size
  replace mx := mx.nw hs17
  replace hf := hf.nw hs17
  replace hm0 := hm0.tr hs17
  have hz2 := hs17.size
  obtain ⟨s17, rfl⟩ : ∃ s : SV, v17 = s.v := ⟨toSV v17, ow17.sv.symm⟩
  refine LR.z (Z.bconst ow17 (by simp) rfl Tryd.underlying25 Tryd.underlying5 rfl) (Wd.u rfl) rfl rfl (fun v18 H18 r18 => ?_)
  obtain ⟨rfl, ow17, hs18⟩ := r18
  replace hs18 := hs18.md
  replace mx := mx.upL hs18 (DFL.cons df3 DFL.nil)
  replace hf := hf.upL hs18 (DKL.cons dj4 DKL.nil)
  replace hm0 := (Mo.trL (ks := []) (hm0.mdn []) hs18 (MIL.cons (MI.app MI.z (nx5) (Nat.le_refl _)) MIL.nil)).nil
  have hz3 := hs18.size
  -- call (*selvage/simfs.FS).Write
  refine LR.call rfl Tryd.call17 rfl (Wd.u rfl) rfl rfl (write_ct mx_ K7 g7 b7 (Dk.empty 100 50) [97, 47, 120] s17 [97, 98] _ w0 _ hf mx (bf_mx.mono (by omega)) (df1) ow17.rd (BF.of ow17.le) (DFL.of (dj4)) (by decide) (hS7.bd (by omega)) (by decide)) (fun v19 H19 r19 => ?_)
  have ql6 := hf.bk
  have ql7 := ow17.le
  obtain ⟨K19, g19, rfl, hf, hkd19, hs19⟩ := r19
  have df8 := DFL.appK (df1) (bf_mx.mono hm0.size) hkd19
  have dj9 : DL (H7.size + 1) K19 := DL.appK (dj4) ql7 hkd19
  have nx10 : NxK [] H0.size K19 := NxK.tr (nx2) hkd19 hm0.size
  replace mx := mx.upL hs19 (df1)
  replace ow17 := ow17.upL hs19 (dj4)
  replace hm0 := (Mo.trL (ks := []) (hm0.mdn []) hs19 (MIL.ofK0 (nx2))).nil
  have hz4 := hs19.size
  have hbk_hf := hf.bk
  have hS19 := hS7.lay [97, 47, 120] ⟨false, [97, 98]⟩
  simp only [List.length_cons, List.length_nil, Nat.zero_add, Nat.reduceAdd] at hS19
  refine LR.nil ?_
  refine hK5 _ _ ?_
  refine CW.seq (fun K6 hK6 hE6 => ?_)
  refine CW.region ?_
  refine LR.v (Y.move rfl rfl) (Wd.u rfl) rfl rfl ?_
  -- call (*selvage/simfs.FS).SyncDir
  refine LR.call rfl Tryd.call24 rfl (Wd.u rfl) rfl rfl (syncDir_ct mx_ K19 g19 b7 ((Dk.empty 100 50).lay [97, 47, 120] ⟨false, [97, 98]⟩).2 [97] w0 _ hf mx (bf_mx.mono (by omega)) (df8) (by decide) (hS19.bd (by omega))) (fun v21 H21 r21 => ?_)
  have ql11 := hf.bk
  obtain ⟨K21, g21, rfl, hf, hkd21, hs21⟩ := r21
  have df12 := DFL.appK (df8) (bf_mx.mono hm0.size) hkd21
  have nx13 : NxK [] H0.size K21 := NxK.tr (nx10) hkd21 hm0.size
  replace mx := mx.upL hs21 (df8)
  replace hm0 := (Mo.trL (ks := []) (hm0.mdn []) hs21 (MIL.ofK0 (nx10))).nil
  have hz5 := hs21.size
  have hbk_hf := hf.bk
  have hS21 := hS19.syncDir [97]
  refine LR.nil ?_
  refine hK6 _ _ ?_
  refine CW.seq (fun K7 hK7 hE7 => ?_)
  refine CW.region ?_
  refine LR.v (Y.move rfl rfl) (Wd.u rfl) rfl rfl ?_
  refine LR.z (Z.litw _ (([3] : List Int)) rfl inf35 rfl rfl rfl (by decide) (by decide) fI_len fI_one (rfl)) (Wd.u rfl) rfl rfl (fun v23 H23 r23 => ?_)
  obtain ⟨ow23, hs23, ob23, hH23⟩ := r23
  have hzs23 : H23.size = H21.size + 1 := by rw [hH23]; simp
  have df14 := (DF.new (bf_mx.mono hm0.size) : DF _ (H21.size + 1))
  have dj15 : DL (H21.size + 1) K21 := DL.newK hf.bk
  have nx16 : Nx 0 H0.size (H21.size + 1) := Nx.new hm0.size
  replace mx := mx.nw hs23
  replace hf := hf.nw hs23
  replace hm0 := hm0.tr hs23
  have hz6 := hs23.size
  obtain ⟨s23, rfl⟩ : ∃ s : SV, v23 = s.v := ⟨toSV v23, ow23.sv.symm⟩
  -- call (*selvage/simfs.FS).Crash
  refine LR.call rfl Tryd.call25 rfl (Wd.u rfl) rfl rfl (crash_ct K21 g21 b7 (((Dk.empty 100 50).lay [97, 47, 120] ⟨false, [97, 98]⟩).2.syncDir [97]).2 _ s23 [3] w0 _ hf ow23.rd (BF.of ow23.le) (DFL.of (dj15)) (hS21.bd (by omega)) (hS21.wy (by omega)) (by decide)) (fun v24 H24 r24 => ?_)
  have ql17 := hf.bk
  have ql18 := ow23.le
  obtain ⟨K24, g24, rfl, hf, hkd24, hs24⟩ := r24
  have df19 := DFL.appK (df12) (bf_mx.mono hm0.size) hkd24
  have dj20 : DL (H21.size + 1) K24 := DL.appK (dj15) ql18 hkd24
  have nx21 : NxK [] H0.size K24 := NxK.tr (nx13) hkd24 hm0.size
  replace mx := mx.upL hs24 (df12)
  replace ow23 := ow23.upL hs24 (dj15)
  replace hm0 := (Mo.trL (ks := []) (hm0.mdn []) hs24 (MIL.ofK0 (nx13))).nil
  have hz7 := hs24.size
  have hbk_hf := hf.bk
  have hS24 := hS21.crash [3]
  refine LR.v (Y.assign rfl rfl) (Wd.u rfl) rfl rfl ?_
  refine LR.nil ?_
  refine hK7 _ _ ?_
  refine CW.seq (fun K8 hK8 hE8 => ?_)
  refine CW.region ?_
  refine LR.v (Y.move rfl rfl) (Wd.u rfl) rfl rfl ?_
  -- call (*selvage/simfs.FS).Read
  refine LR.call rfl Tryd.call18 rfl (Wd.u rfl) rfl rfl (read_ct mx_ K24 g24 b7 ((((Dk.empty 100 50).lay [97, 47, 120] ⟨false, [97, 98]⟩).2.syncDir [97]).2.crash [3]) [97, 47, 120] w0 _ mx (bf_mx.mono (by omega)) hf (by decide) (fun i => by have := ((hS24).f i).1; omega)) (fun v27 H27 r27 => ?_)
  obtain ⟨s27, k27, rfl, ow27, hk27, hs27⟩ := r27
  have df22 := DF.app (DF.z) (bf_mx.mono hm0.size) hk27
  have dj23 : DL k27 K24 := DL.app2 (DL.zK) hf.bk hk27
  have nx24 : Nx 0 H0.size k27 := Nx.tr (Nx.refl 0 _) hk27 hm0.size
  replace mx := mx.nw hs27
  replace hf := hf.nw hs27
  replace hm0 := hm0.tr hs27
  have hz8 := hs27.size
  have hle_ow27 := ow27.le
  refine LR.v (Y.move rfl rfl) (Wd.u rfl) rfl rfl ?_
  refine LR.v (Y.extract rfl rfl rfl) (Wd.u rfl) rfl rfl ?_
  refine LR.v (Y.extract rfl rfl rfl) (Wd.u rfl) rfl rfl ?_
  refine LR.v (Y.assign rfl rfl) (Wd.u rfl) rfl rfl ?_
  refine LR.v (Y.assign rfl rfl) (Wd.u rfl) rfl rfl ?_
  refine LR.nil ?_
  refine hK8 _ _ ?_
  refine CW.seq (fun K9 hK9 hE9 => ?_)
  refine CW.region ?_
  refine LR.v (Y.move rfl rfl) (Wd.u rfl) rfl rfl ?_
  refine LR.v ((Y.eql rfl rfl rfl).isT ((show ((((((Dk.empty 100 50).lay [97, 47, 120] ⟨false, [97, 98]⟩).2.syncDir [97]).2).crashA [3]).2 : Int) = 1 by decide +kernel))) (Wd.u rfl) rfl rfl ?_
  refine LR.v (Y.move rfl rfl) (Wd.u rfl) rfl rfl ?_
  refine LR.v (Y.move rfl rfl) (Wd.g rfl rfl rfl) rfl rfl ?_
  refine LR.v ((Y.eql rfl rfl rfl).isT ((show ((((((Dk.empty 100 50).lay [97, 47, 120] ⟨false, [97, 98]⟩).2.syncDir [97]).2.crash [3]).readE [97, 47, 120] : Nat) : Int) = 0 by decide +kernel))) (Wd.g rfl rfl rfl) rfl rfl ?_
  refine LR.v (Y.pick_t rfl rfl rfl) (Wd.u rfl) rfl rfl ?_
  refine LR.v (Y.move rfl rfl) (Wd.u rfl) rfl rfl ?_
  refine LR.v (Y.move rfl rfl) (Wd.g rfl rfl rfl) rfl rfl ?_
  refine LR.v (Y.bstr ow27.rd rfl Tryd.underlying25 Tryd.underlying9 Tryd.underlying5 rfl) (Wd.g rfl rfl rfl) rfl rfl ?_
  refine LR.v ((Y.seql rfl rfl rfl).isT ((show ((((Dk.empty 100 50).lay [97, 47, 120] ⟨false, [97, 98]⟩).2.syncDir [97]).2.crash [3]).readL [97, 47, 120] = [0, 0] by decide +kernel))) (Wd.g rfl rfl rfl) rfl rfl ?_
  refine LR.v (Y.pick_t rfl rfl rfl) (Wd.u rfl) rfl rfl ?_
  refine LR.v (Y.assign rfl rfl) (Wd.u rfl) rfl rfl ?_
  refine LR.nil ?_
  refine hK9 _ _ ?_
  refine CW.ret (hret .ret (.inr rfl) _ _ _ (res1 rfl rfl) ?_)
  exact ⟨rfl, hm0⟩

end Go.Proofs.YtfbfjhppppoilaaDoor.SimR
