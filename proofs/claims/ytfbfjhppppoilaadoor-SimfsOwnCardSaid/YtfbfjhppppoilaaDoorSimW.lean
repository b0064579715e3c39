/-
  The disk: what was handed in and told is nobody else's (the statement SimfsOwn's function).
-/
import Derived.Test.YtfbfjhppppoilaaDoorSimU
namespace Go.Proofs.YtfbfjhppppoilaaDoor.SimW
open Go.Proofs.YtfbfjhppppoilaaDoor.E Go.RowKit Go.Proofs.YtfbfjhppppoilaaDoor.SimA Go.Proofs.YtfbfjhppppoilaaDoor.SimB Go.Proofs.YtfbfjhppppoilaaDoor.SimC Go.Proofs.YtfbfjhppppoilaaDoor.SimD Go.Proofs.YtfbfjhppppoilaaDoor.SimE Go.Proofs.YtfbfjhppppoilaaDoor.SimF Go.Proofs.YtfbfjhppppoilaaDoor.SimG Go.Proofs.YtfbfjhppppoilaaDoor.SimH Go.Proofs.YtfbfjhppppoilaaDoor.SimI Go.Proofs.YtfbfjhppppoilaaDoor.SimJ Go.Proofs.YtfbfjhppppoilaaDoor.SimK Go.Proofs.YtfbfjhppppoilaaDoor.SimL Go.Proofs.YtfbfjhppppoilaaDoor.SimM Go.Proofs.YtfbfjhppppoilaaDoor.SimN Go.Proofs.YtfbfjhppppoilaaDoor.SimP Go.Proofs.YtfbfjhppppoilaaDoor.SimQ Go.Proofs.YtfbfjhppppoilaaDoor.SimR Go.Proofs.YtfbfjhppppoilaaDoor.SimS Go.Proofs.YtfbfjhppppoilaaDoor.SimU
set_option maxRecDepth 20000
set_option linter.unusedVariables false
set_option linter.unusedSimpArgs false
set_option linter.unusedSectionVars false
set_option maxRecDepth 100000 in
theorem inf25 : Inf Tryd.prog 25 5 1 1 := ⟨Tryd.underlying25, _, _, rfl, rfl, rfl, rfl, rfl⟩

def ownD (x : List UInt8) : Dk := ((Dk.empty 65536 4096).lay [120] ⟨false, x⟩).2
theorem own_all {x : List UInt8} (h : x.length ≤ 2000) : (ownD x).readE [120] = 0 ∧ (ownD x).readL [120] = x ∧ (ownD x).used = x.length ∧ Asc (ownD x).now := by
  have e : ownD x = ⟨65536, 4096, [⟨x, [], [⟨false, x⟩]⟩], [([120], 0)], [], [⟨[], [120], some 0⟩], 1, 0, false⟩ := by
    unfold ownD Dk.empty
    rw [lay_a (by decide) (by simp only [on_f]; omega) (by simp only [on_f]; simp [usedL, Dk.wasL, mget]; omega)]
    simp [Dk.write, Dk.make, mget, nput, Dk.change, Chg.ap, Dk.putF, fget, on_f]
  rw [e]
  obtain ⟨h1, h2⟩ := read_of (D := ⟨65536, 4096, [⟨x, [], [⟨false, x⟩]⟩], [([120], 0)], [], [⟨[], [120], some 0⟩], 1, 0, false⟩) (p := [120]) (i := 0) (x := x) rfl (by decide) rfl rfl
  exact ⟨h1, h2, by simp [Dk.used, usedL, fget], List.pairwise_singleton _ _⟩
theorem own_2 : (Dk.empty 65536 4096).readE [120] = 2 ∧ (Dk.empty 65536 4096).used = 0 := by decide

set_option maxHeartbeats 8000000 in
theorem own_ct (mx_ : Int) (s0 : SV) (data : List UInt8) (w0 : World) (H0 : Heap)
    (mx : MX mx_ H0) (bf_mx : BF (fun b => b = 0) H0.size) (hd : RdT H0 fB 1 s0.v data) :
    Ct Tryd.prog w0 4 #[s0.v] H0 (fun r H2 => r = .bool true ∧ Nw H0 H2) := by
  refine Ct.enter (args := [s0.v]) Tryd.func4 rfl rfl rfl ?_
  intro Q0 hret
  have hm0 : Nw H0 H0 := Mo.refl _ _
  replace hd := hd.bnd
  have bf_hd := hd.bf
  refine CW.seq (fun K1 hK1 hE1 => ?_)
  refine CW.region ?_
  refine LR.v (Y.assign rfl rfl) (Wd.u rfl) rfl rfl ?_
  refine LR.nil ?_
  refine hK1 _ _ ?_
  refine CW.seq (fun K2 hK2 hE2 => ?_)
  refine CW.seq (fun K3 hK3 hE3 => ?_)
  refine CW.region ?_
  -- call selvage/selvagelaw2.known
  refine LR.call rfl Tryd.call11 rfl (Wd.u rfl) rfl rfl (known_ct mx_ w0 _ mx bf_mx) (fun v16 H16 r16 => ?_)
  obtain ⟨rfl, hs16⟩ := r16
  replace mx := mx.nw hs16
  replace hd := hd.nw hs16
  replace hm0 := hm0.tr hs16
  have hz1 := hs16.size
  refine LR.v (Y.not rfl rfl) (Wd.u rfl) rfl rfl ?_
  refine LR.nil ?_
  refine hK3 _ _ ?_
  refine CW.cond_f rfl ?_
  refine CW.skip ?_
  refine hK2 _ _ ?_
  refine CW.seq (fun K4 hK4 hE4 => ?_)
  refine CW.seq (fun K5 hK5 hE5 => ?_)
  refine CW.region ?_
  refine LR.v (Y.move rfl rfl) (Wd.u rfl) rfl rfl ?_
  refine LR.v (Y.len hd rfl Tryd.runUnderlying25 rfl) (Wd.u rfl) rfl rfl ?_
  refine LR.v (Y.gtr rfl rfl rfl) (Wd.u rfl) rfl rfl ?_
  refine LR.nil ?_
  refine hK5 _ _ ?_
  refine CW.condp rfl (fun c20 => ?_) (fun c20 => ?_)
  ·
    refine CW.seq (fun K6 hK6 hE6 => ?_)
    refine CW.region ?_
    refine LR.v (Y.assign rfl rfl) (Wd.u rfl) rfl rfl ?_
    refine LR.nil ?_
    refine hK6 _ _ ?_
    refine CW.ret (hE4 .ret nofun _ _ (hret .ret (.inr rfl) _ _ _ (res1 rfl rfl) ?_))
    exact ⟨rfl, hm0⟩
  ·
    refine CW.skip ?_
    refine hK4 _ _ ?_
    refine CW.seq (fun K7 hK7 hE7 => ?_)
    refine CW.region ?_
    -- call selvage/simfs.New
    refine LR.call rfl Tryd.call16 rfl (Wd.u rfl) rfl rfl (new_ct 65536 4096 w0 _ (by decide) (by decide)) (fun v22 H22 r22 => ?_)
    obtain ⟨K22, g22, b22, rfl, hf, hkn22, hs22⟩ := r22
    have df1 := DFL.appK (DFL.nil) (bf_mx.mono hm0.size) hkn22
    have df2 := DFL.appK (DFL.nil) (bf_hd.mono hm0.size) hkn22
    have nx3 : NxK [] H0.size K22 := NxK.tr (NxK.refl [] _) hkn22 hm0.size
    replace mx := mx.nw hs22
    replace hd := hd.nw hs22
    replace hm0 := hm0.tr hs22
    have hz2 := hs22.size
    have hbk_hf := hf.bk
    have hS22 := Bs.empty 65536 4096
    refine LR.v (Y.move rfl rfl) (Wd.u rfl) rfl rfl ?_
    refine LR.v (Y.extract rfl rfl rfl) (Wd.u rfl) rfl rfl ?_
    refine LR.v (Y.extract rfl rfl rfl) (Wd.u rfl) rfl rfl ?_
    refine LR.v (Y.assign rfl rfl) (Wd.u rfl) rfl rfl ?_
    refine LR.v (Y.assign rfl rfl) (Wd.u rfl) rfl rfl ?_
    refine LR.nil ?_
    refine hK7 _ _ ?_
    refine CW.seq (fun K8 hK8 hE8 => ?_)
    refine CW.region ?_
    -- call selvage/simfs.New
    refine LR.call rfl Tryd.call16 rfl (Wd.u rfl) rfl rfl (new_ct 65536 4096 w0 _ (by decide) (by decide)) (fun v26 H26 r26 => ?_)
    obtain ⟨Q26, g26, b26, rfl, hfg, hkn26, hs26⟩ := r26
    have df4 := DFL.appK (DFL.nil) (bf_mx.mono hm0.size) hkn26
    have df5 := DFL.appK (DFL.nil) (bf_hd.mono hm0.size) hkn26
    have dj6 : DKL K22 Q26 := DKL.appK (DKL.nil) hf.bk hkn26
    have nx7 : NxK [] H0.size Q26 := NxK.tr (NxK.refl [] _) hkn26 hm0.size
    replace mx := mx.nw hs26
    replace hd := hd.nw hs26
    replace hf := hf.nw hs26
    replace hm0 := hm0.tr hs26
    have hz3 := hs26.size
    have hbk_hfg := hfg.bk
    have hS26 := Bs.empty 65536 4096
    refine LR.v (Y.move rfl rfl) (Wd.u rfl) rfl rfl ?_
    refine LR.v (Y.extract rfl rfl rfl) (Wd.u rfl) rfl rfl ?_
    refine LR.v (Y.extract rfl rfl rfl) (Wd.u rfl) rfl rfl ?_
    refine LR.v (Y.assign rfl rfl) (Wd.u rfl) rfl rfl ?_
    refine LR.v (Y.assign rfl rfl) (Wd.u rfl) rfl rfl ?_
    refine LR.nil ?_
    refine hK8 _ _ ?_
    refine CW.seq (fun K9 hK9 hE9 => ?_)
    refine CW.seq (fun K10 hK10 hE10 => ?_)
    refine CW.region ?_
    refine LR.v (Y.move rfl rfl) (Wd.u rfl) rfl rfl ?_
    refine LR.v (Y.peq rfl (by kernel_rfl) (by kernel_rfl) rfl rfl) (Wd.u rfl) rfl rfl ?_
    refine LR.v (Y.move rfl rfl) (Wd.u rfl) rfl rfl ?_
    refine LR.v (Y.move rfl rfl) (Wd.g rfl rfl rfl) rfl rfl ?_
    refine LR.v (Y.peq rfl (by kernel_rfl) (by kernel_rfl) rfl rfl) (Wd.g rfl rfl rfl) rfl rfl ?_
    refine LR.v (Y.pick_f rfl rfl rfl) (Wd.u rfl) rfl rfl ?_
    refine LR.nil ?_
    refine hK10 _ _ ?_
    refine CW.cond_f rfl ?_
    refine CW.skip ?_
    refine hK9 _ _ ?_
    refine CW.seq (fun K11 hK11 hE11 => ?_)
    refine CW.region ?_
    refine LR.z (Z.litw _ (([] : List UInt8)) rfl inf25 rfl rfl rfl (by decide) (by decide) fB_len fB_one (rfl)) (Wd.u rfl) rfl rfl (fun v35 H35 r35 => ?_)
    obtain ⟨ow37, hs35, ob35, hH35⟩ := r35
    have hzs35 : H35.size = H26.size + 1 := by rw [hH35]; simp
    have df8 := (DF.new (bf_mx.mono hm0.size) : DF _ (H26.size + 1))
    have df9 := (DF.new (bf_hd.mono hm0.size) : DF _ (H26.size + 1))
    have dj10 : DL (H26.size + 1) K22 := DL.newK hf.bk
    have dj11 : DL (H26.size + 1) Q26 := DL.newK hfg.bk
    have nx12 : Nx 0 H0.size (H26.size + 1) := Nx.new hm0.size
    replace mx := mx.nw hs35
    replace hd := hd.nw hs35
    replace hf := hf.nw hs35
    replace hfg := hfg.nw hs35
    replace hm0 := hm0.tr hs35
    have hz4 := hs35.size
    refine LR.v (Y.move rfl rfl) (Wd.u rfl) rfl rfl ?_
    refine LR.z (Z.apnd ow37 hd rfl inf25 rfl rfl (by simp only [List.length_nil]; omega) (by simp only [List.length_nil]; omega)) (Wd.u rfl) rfl rfl (fun v37 H37 r37 => ?_)
    obtain ⟨k37, ow37, hk37, hs37⟩ := r37
    replace hk37 : Nx (H26.size + 1) H35.size k37 := hk37
    replace hs37 := hs37.md
    have df13 := DF.app (df8) (bf_mx.mono hm0.size) hk37
    have df14 := DF.app (df9) (bf_hd.mono hm0.size) hk37
    have dj15 : DL k37 K22 := DL.app2 (dj10) hf.bk hk37
    have dj16 : DL k37 Q26 := DL.app2 (dj11) hfg.bk hk37
    have nx17 : Nx 0 H0.size k37 := Nx.tr (nx12) hk37 hm0.size
    replace mx := mx.upL hs37 (DFL.cons df8 DFL.nil)
    replace hd := hd.upL hs37 (DFL.cons df9 DFL.nil)
    replace hf := hf.upL hs37 (DKL.cons dj10 DKL.nil)
    replace hfg := hfg.upL hs37 (DKL.cons dj11 DKL.nil)
    replace hm0 := (Mo.trL (ks := []) (hm0.mdn []) hs37 (MIL.cons (MI.app MI.z (nx12) (Nat.le_refl _)) MIL.nil)).nil
    have hz5 := hs37.size
    have hle_ow37 := ow37.le
    rw [List.nil_append] at ow37
    obtain ⟨s37, rfl⟩ : ∃ s : SV, v37 = s.v := ⟨toSV v37, ow37.sv.symm⟩
    refine LR.v (Y.assign rfl rfl) (Wd.u rfl) rfl rfl ?_
    refine LR.nil ?_
    refine hK11 _ _ ?_
    refine CW.seq (fun K12 hK12 hE12 => ?_)
    refine CW.region ?_
    refine LR.v (Y.move rfl rfl) (Wd.u rfl) rfl rfl ?_
    refine LR.v (Y.move rfl rfl) (Wd.u rfl) rfl rfl ?_
    -- call (*selvage/simfs.FS).Write
    refine LR.call rfl Tryd.call17 rfl (Wd.u rfl) rfl rfl (write_ct mx_ K22 g22 b22 (Dk.empty 65536 4096) [120] s37 data _ w0 _ hf mx (bf_mx.mono (by omega)) (df1) ow37.rd (BF.of ow37.le) (DFL.of (dj15)) (by decide) (hS22.bd (by omega)) (by omega)) (fun v40 H40 r40 => ?_)
    have ql18 := hf.bk
    have ql19 := hfg.bk
    have ql20 := ow37.le
    obtain ⟨K40, g40, rfl, hf, hkd40, hs40⟩ := r40
    have df21 := DFL.appK (df1) (bf_mx.mono hm0.size) hkd40
    have df22 := DFL.appK (df2) (bf_hd.mono hm0.size) hkd40
    have dj23 : DKL Q26 K40 := DKL.appK (dj6.symm) ql19 hkd40
    have dj24 : DL k37 K40 := DL.appK (dj15) ql20 hkd40
    have nx25 : NxK [] H0.size K40 := NxK.tr (nx3) hkd40 hm0.size
    replace mx := mx.upL hs40 (df1)
    replace hd := hd.upL hs40 (df2)
    replace hfg := hfg.upL hs40 (dj6.symm)
    replace ow37 := ow37.upL hs40 (dj15)
    replace hm0 := (Mo.trL (ks := []) (hm0.mdn []) hs40 (MIL.ofK0 (nx3))).nil
    have hz6 := hs40.size
    have hbk_hf := hf.bk
    have hS40 := hS22.lay [120] ⟨false, data⟩
    simp only [List.length_cons, List.length_nil, Nat.zero_add, Nat.reduceAdd] at hS40
    have e40 : ((Dk.empty 65536 4096).lay [120] ⟨false, data⟩).2 = (ownD data) := rfl
    rw [e40] at hf hS40
    replace hS40 : Bs (data.length + 10) _ := hS40.mono (by omega)
    obtain ⟨q1, q2, q3, q4⟩ := own_all (show data.length ≤ 2000 by omega)
    refine LR.nil ?_
    refine hK12 _ _ ?_
    refine CW.seq (fun K13 hK13 hE13 => ?_)
    refine CW.seq (fun K14 hK14 hE14 => ?_)
    refine CW.region ?_
    refine LR.v (Y.assign rfl rfl) (Wd.u rfl) rfl rfl ?_
    refine LR.nil ?_
    refine hK14 _ _ ?_
    refine CW.block (fun K15 hK15 hX15 hE15 => ?_)
    refine CW.loop (fun (s_ : (Nat) × (List UInt8)) => match s_ with | (i, xs) => [(0, s0.v), (3, ptr b22), (5, ptr b26), (7, s37.v), (8, .int .i64 (i : Int))])
      (fun (s_ : (Nat) × (List UInt8)) (H : Heap) => match s_ with | (i, xs) => (i ≤ xs.length) ∧ (xs.length = data.length) ∧ (Ow k37 5 H fB 1 s37.v xs) ∧ (Nx k37 H40.size k37) ∧ Mo (Ms [k37]) H40 H)
      (fun (s_ : (Nat) × (List UInt8)) => match s_ with | (i, xs) => xs.length - i) (0, data) ⟨rfl, rfl, rfl, rfl, rfl, trivial⟩ ?_ ?_
    ·
      exact ⟨(by omega), rfl, ow37, Nx.refl _ _, Mo.refl _ _⟩
    rintro ⟨i, xs⟩ HL1 hI1 K16 hN16 hE16
    obtain ⟨hi, hxl, ow37, nxl_ow37, hlm1⟩ := hI1
    have df26 := DF.app (df13) (bf_mx.mono hm0.size) nxl_ow37
    have df27 := DF.app (df14) (bf_hd.mono hm0.size) nxl_ow37
    have dj28 : DL k37 K40 := DL.app2 (dj24) hf.bk nxl_ow37
    have dj29 : DL k37 Q26 := DL.app2 (dj16) hfg.bk nxl_ow37
    have nx30 : Nx 0 H0.size k37 := Nx.tr (nx17) nxl_ow37 hm0.size
    replace mx := mx.upL hlm1 (DFL.cons df13 DFL.nil)
    replace hd := hd.upL hlm1 (DFL.cons df14 DFL.nil)
    replace hf := hf.upL hlm1 (DKL.cons dj24 DKL.nil)
    replace hfg := hfg.upL hlm1 (DKL.cons dj16 DKL.nil)
    replace hm0 := (Mo.trL (ks := []) (hm0.mdn []) hlm1 (MIL.cons (MI.app MI.z (nx17) (Nat.le_refl _)) MIL.nil)).nil
    have hz7 := hlm1.size
    have hle_ow37 := ow37.le
    have nx31 := nxl_ow37
    refine CW.seq (fun K17 hK17 hE17 => ?_)
    refine CW.seq (fun K18 hK18 hE18 => ?_)
    refine CW.region ?_
    refine LR.v (Y.move rfl rfl) (Wd.u rfl) rfl rfl ?_
    refine LR.v (Y.move rfl rfl) (Wd.u rfl) rfl rfl ?_
    refine LR.v (Y.len ow37.rd rfl Tryd.runUnderlying25 rfl) (Wd.u rfl) rfl rfl ?_
    refine LR.v (Y.lss rfl rfl rfl) (Wd.u rfl) rfl rfl ?_
    refine LR.nil ?_
    refine hK18 _ _ ?_
    refine CW.condp rfl (fun c44 => ?_) (fun c44 => ?_)
    ·
      refine CW.skip ?_
      refine hK17 _ _ ?_
      refine CW.seq (fun K19 hK19 hE19 => ?_)
      refine CW.block (fun K20 hK20 hX20 hE20 => ?_)
      refine CW.region ?_
      refine LR.v (Y.move rfl rfl) (Wd.u rfl) rfl rfl ?_
      refine LR.v (Y.move rfl rfl) (Wd.u rfl) rfl rfl ?_
      refine LR.v (Y.owAddr ow37 (i) rfl Tryd.runUnderlying25 Tryd.sizeOf5 rfl rfl (by first | rfl | omega) (by first | omega | (simp; omega) | (simp; done))) (Wd.u rfl) rfl rfl ?_
      refine LR.s (S.oww ow37 (i) 0 ((238 : UInt8)) rfl rfl rfl rfl Tryd.sizeOf5 (by first | omega | (simp; omega) | (simp; done)) (by decide) (rfl)) (Wd.u rfl) rfl (fun H14_3 r14_3 => ?_)
      obtain ⟨ow37, hs14_3⟩ := r14_3
      replace hs14_3 := hs14_3.md
      replace mx := mx.upL hs14_3 (DFL.cons df26 DFL.nil)
      replace hd := hd.upL hs14_3 (DFL.cons df27 DFL.nil)
      replace hf := hf.upL hs14_3 (DKL.cons dj28 DKL.nil)
      replace hfg := hfg.upL hs14_3 (DKL.cons dj29 DKL.nil)
      replace hm0 := (Mo.trL (ks := []) (hm0.mdn []) hs14_3 (MIL.cons (MI.app MI.z (nx30) (Nat.le_refl _)) MIL.nil)).nil
      replace hlm1 := hlm1.trL hs14_3 (MIL.cons (MI.app (MI.root (by simp)) (nx31) (Nat.le_refl _)) MIL.nil)
      have hz8 := hs14_3.size
      refine LR.nil ?_
      refine hK20 _ _ ?_
      refine hK19 _ _ ?_
      refine CW.region ?_
      refine LR.v (Y.move rfl rfl) (Wd.u rfl) rfl rfl ?_
      refine LR.v (Y.addi rfl rfl rfl (by omega)) (Wd.u rfl) rfl rfl ?_
      refine LR.v (Y.assign rfl rfl) (Wd.u rfl) rfl rfl ?_
      refine LR.nil ?_
      refine QN.sub (hN16 (i + 1, xs.set i 238) _ ?_ ?_) ⟨rfl, rfl, rfl, rfl, (iv (by omega)), trivial⟩
      · exact ⟨(by simp; omega), (by simp [hxl]), ow37, nx31, hlm1⟩
      · simp only [List.length_set]; omega
    ·
      refine CW.exit (hE17 (.exit 0) nofun _ _ (hE16 (.exit 0) nofun _ _ (hX15 _ _ ?_)))
      refine hK13 _ _ ?_
      refine CW.seq (fun K21 hK21 hE21 => ?_)
      refine CW.region ?_
      refine LR.v (Y.move rfl rfl) (Wd.u rfl) rfl rfl ?_
      -- call (*selvage/simfs.FS).Read
      refine LR.call rfl Tryd.call18 rfl (Wd.u rfl) rfl rfl (read_ct mx_ K40 g40 b22 (ownD data) [120] w0 _ mx (bf_mx.mono (by omega)) hf (by decide) (fun i => by have := (hS40.f i).1; omega)) (fun v52 H52 r52 => ?_)
      obtain ⟨s52, k52, rfl, ow52, hk52, hs52⟩ := r52
      have df32 := DF.app (DF.z) (bf_mx.mono hm0.size) hk52
      have df33 := DF.app (DF.z) (bf_hd.mono hm0.size) hk52
      have dj34 : DL k52 K40 := DL.app2 (DL.zK) hf.bk hk52
      have dj35 : DL k52 Q26 := DL.app2 (DL.zK) hfg.bk hk52
      have dj36 : Dj k37 k52 := Dj.app (Dj.z) ow37.le hk52
      have nx37 : Nx 0 H0.size k52 := Nx.tr (Nx.refl 0 _) hk52 hm0.size
      replace mx := mx.nw hs52
      replace hd := hd.nw hs52
      replace hf := hf.nw hs52
      replace hfg := hfg.nw hs52
      replace ow37 := ow37.nw hs52
      replace hm0 := hm0.tr hs52
      have hz9 := hs52.size
      have hle_ow52 := ow52.le
      refine LR.v (Y.move rfl rfl) (Wd.u rfl) rfl rfl ?_
      refine LR.v (Y.extract rfl rfl rfl) (Wd.u rfl) rfl rfl ?_
      refine LR.v (Y.extract rfl rfl rfl) (Wd.u rfl) rfl rfl ?_
      refine LR.v (Y.assign rfl rfl) (Wd.u rfl) rfl rfl ?_
      refine LR.v (Y.assign rfl rfl) (Wd.u rfl) rfl rfl ?_
      refine LR.nil ?_
      refine hK21 _ _ ?_
      refine CW.seq (fun K22 hK22 hE22 => ?_)
      refine CW.seq (fun K23 hK23 hE23 => ?_)
      refine CW.region ?_
      refine LR.v (Y.assign rfl rfl) (Wd.u rfl) rfl rfl ?_
      refine LR.nil ?_
      refine hK23 _ _ ?_
      refine CW.block (fun K24 hK24 hX24 hE24 => ?_)
      refine CW.loop (fun (s_ : (Nat) × (List UInt8)) => match s_ with | (i, xs) => [(0, s0.v), (3, ptr b22), (5, ptr b26), (9, s52.v), (11, .int .i64 (i : Int))])
        (fun (s_ : (Nat) × (List UInt8)) (H : Heap) => match s_ with | (i, xs) => (i ≤ xs.length) ∧ (xs.length = data.length) ∧ (Ow k52 5 H fB 1 s52.v xs) ∧ (Nx k52 H52.size k52) ∧ Mo (Ms [k52]) H52 H)
        (fun (s_ : (Nat) × (List UInt8)) => match s_ with | (i, xs) => xs.length - i) (0, (ownD data).readL [120]) ⟨rfl, rfl, rfl, rfl, rfl, trivial⟩ ?_ ?_
      ·
        exact ⟨(by omega), (by rw [q2]), ow52, Nx.refl _ _, Mo.refl _ _⟩
      rintro ⟨i, xs⟩ HL2 hI2 K25 hN25 hE25
      obtain ⟨hi, hxl, ow52, nxl_ow52, hlm2⟩ := hI2
      have df38 := DF.app (df32) (bf_mx.mono hm0.size) nxl_ow52
      have df39 := DF.app (df33) (bf_hd.mono hm0.size) nxl_ow52
      have dj40 : DL k52 K40 := DL.app2 (dj34) hf.bk nxl_ow52
      have dj41 : DL k52 Q26 := DL.app2 (dj35) hfg.bk nxl_ow52
      have dj42 : Dj k37 k52 := Dj.app (dj36) ow37.le nxl_ow52
      have nx43 : Nx 0 H0.size k52 := Nx.tr (nx37) nxl_ow52 hm0.size
      replace mx := mx.upL hlm2 (DFL.cons df32 DFL.nil)
      replace hd := hd.upL hlm2 (DFL.cons df33 DFL.nil)
      replace hf := hf.upL hlm2 (DKL.cons dj34 DKL.nil)
      replace hfg := hfg.upL hlm2 (DKL.cons dj35 DKL.nil)
      replace ow37 := ow37.upL hlm2 (DL.cons dj36 DL.nil)
      replace hm0 := (Mo.trL (ks := []) (hm0.mdn []) hlm2 (MIL.cons (MI.app MI.z (nx37) (Nat.le_refl _)) MIL.nil)).nil
      have hz10 := hlm2.size
      have hle_ow52 := ow52.le
      have nx44 := nxl_ow52
      refine CW.seq (fun K26 hK26 hE26 => ?_)
      refine CW.seq (fun K27 hK27 hE27 => ?_)
      refine CW.region ?_
      refine LR.v (Y.move rfl rfl) (Wd.u rfl) rfl rfl ?_
      refine LR.v (Y.move rfl rfl) (Wd.u rfl) rfl rfl ?_
      refine LR.v (Y.len ow52.rd rfl Tryd.runUnderlying25 rfl) (Wd.u rfl) rfl rfl ?_
      refine LR.v (Y.lss rfl rfl rfl) (Wd.u rfl) rfl rfl ?_
      refine LR.nil ?_
      refine hK27 _ _ ?_
      refine CW.condp rfl (fun c58 => ?_) (fun c58 => ?_)
      ·
        refine CW.skip ?_
        refine hK26 _ _ ?_
        refine CW.seq (fun K28 hK28 hE28 => ?_)
        refine CW.block (fun K29 hK29 hX29 hE29 => ?_)
        refine CW.region ?_
        refine LR.v (Y.move rfl rfl) (Wd.u rfl) rfl rfl ?_
        refine LR.v (Y.move rfl rfl) (Wd.u rfl) rfl rfl ?_
        refine LR.v (Y.owAddr ow52 (i) rfl Tryd.runUnderlying25 Tryd.sizeOf5 rfl rfl (by first | rfl | omega) (by first | omega | (simp; omega) | (simp; done))) (Wd.u rfl) rfl rfl ?_
        refine LR.s (S.oww ow52 (i) 0 ((238 : UInt8)) rfl rfl rfl rfl Tryd.sizeOf5 (by first | omega | (simp; omega) | (simp; done)) (by decide) (rfl)) (Wd.u rfl) rfl (fun H19_3 r19_3 => ?_)
        obtain ⟨ow52, hs19_3⟩ := r19_3
        replace hs19_3 := hs19_3.md
        replace mx := mx.upL hs19_3 (DFL.cons df38 DFL.nil)
        replace hd := hd.upL hs19_3 (DFL.cons df39 DFL.nil)
        replace hf := hf.upL hs19_3 (DKL.cons dj40 DKL.nil)
        replace hfg := hfg.upL hs19_3 (DKL.cons dj41 DKL.nil)
        replace ow37 := ow37.upL hs19_3 (DL.cons dj42 DL.nil)
        replace hm0 := (Mo.trL (ks := []) (hm0.mdn []) hs19_3 (MIL.cons (MI.app MI.z (nx43) (Nat.le_refl _)) MIL.nil)).nil
        replace hlm2 := hlm2.trL hs19_3 (MIL.cons (MI.app (MI.root (by simp)) (nx44) (Nat.le_refl _)) MIL.nil)
        have hz11 := hs19_3.size
        refine LR.nil ?_
        refine hK29 _ _ ?_
        refine hK28 _ _ ?_
        refine CW.region ?_
        refine LR.v (Y.move rfl rfl) (Wd.u rfl) rfl rfl ?_
        refine LR.v (Y.addi rfl rfl rfl (by omega)) (Wd.u rfl) rfl rfl ?_
        refine LR.v (Y.assign rfl rfl) (Wd.u rfl) rfl rfl ?_
        refine LR.nil ?_
        refine QN.sub (hN25 (i + 1, xs.set i 238) _ ?_ ?_) ⟨rfl, rfl, rfl, rfl, (iv (by omega)), trivial⟩
        · exact ⟨(by simp; omega), (by simp [hxl]), ow52, nx44, hlm2⟩
        · simp only [List.length_set]; omega
      ·
        refine CW.exit (hE26 (.exit 2) nofun _ _ (hE25 (.exit 2) nofun _ _ (hX24 _ _ ?_)))
        refine hK22 _ _ ?_
        refine CW.seq (fun K30 hK30 hE30 => ?_)
        refine CW.region ?_
        refine LR.v (Y.move rfl rfl) (Wd.u rfl) rfl rfl ?_
        refine LR.z (Z.litw _ (([1, 2, 3] : List UInt8)) rfl inf25 rfl rfl rfl (by decide) (by decide) fB_len fB_one (rfl)) (Wd.u rfl) rfl rfl (fun v65 H65 r65 => ?_)
        obtain ⟨ow65, hs65, ob65, hH65⟩ := r65
        have hzs65 : H65.size = HL2.size + 1 := by rw [hH65]; simp
        have df45 := (DF.new (bf_mx.mono hm0.size) : DF _ (HL2.size + 1))
        have df46 := (DF.new (bf_hd.mono hm0.size) : DF _ (HL2.size + 1))
        have dj47 : DL (HL2.size + 1) K40 := DL.newK hf.bk
        have dj48 : DL (HL2.size + 1) Q26 := DL.newK hfg.bk
        have dj49 : Dj k37 (HL2.size + 1) := Dj.new ow37.le
        have dj50 : Dj k52 (HL2.size + 1) := Dj.new ow52.le
        have nx51 : Nx 0 H0.size (HL2.size + 1) := Nx.new hm0.size
        replace mx := mx.nw hs65
        replace hd := hd.nw hs65
        replace hf := hf.nw hs65
        replace hfg := hfg.nw hs65
        replace ow37 := ow37.nw hs65
        replace ow52 := ow52.nw hs65
        replace hm0 := hm0.tr hs65
        have hz12 := hs65.size
        refine LR.z (Z.apnd ow52 ow65.rd rfl inf25 rfl rfl (by simp only [List.length_cons, List.length_nil]; omega) (by simp only [List.length_cons, List.length_nil]; omega)) (Wd.u rfl) rfl rfl (fun v66 H66 r66 => ?_)
        obtain ⟨k66, ow66, hk66, hs66⟩ := r66
        replace hk66 : Nx k52 H65.size k66 := hk66
        replace hs66 := hs66.md
        have df52 := DF.app (df38) (bf_mx.mono hm0.size) hk66
        have df53 := DF.app (df39) (bf_hd.mono hm0.size) hk66
        have dj54 : DL k66 K40 := DL.app2 (dj40) hf.bk hk66
        have dj55 : DL k66 Q26 := DL.app2 (dj41) hfg.bk hk66
        have dj56 : Dj k37 k66 := Dj.app (dj42) ow37.le hk66
        have dj57 : Dj (HL2.size + 1) k66 := Dj.app (dj50.symm) ow65.le hk66
        have nx58 : Nx 0 H0.size k66 := Nx.tr (nx43) hk66 hm0.size
        replace mx := mx.upL hs66 (DFL.cons df38 DFL.nil)
        replace hd := hd.upL hs66 (DFL.cons df39 DFL.nil)
        replace hf := hf.upL hs66 (DKL.cons dj40 DKL.nil)
        replace hfg := hfg.upL hs66 (DKL.cons dj41 DKL.nil)
        replace ow37 := ow37.upL hs66 (DL.cons dj42 DL.nil)
        replace ow65 := ow65.upL hs66 (DL.cons dj50.symm DL.nil)
        replace hm0 := (Mo.trL (ks := []) (hm0.mdn []) hs66 (MIL.cons (MI.app MI.z (nx43) (Nat.le_refl _)) MIL.nil)).nil
        have hz13 := hs66.size
        have hle_ow66 := ow66.le
        refine LR.v (Y.assign rfl rfl) (Wd.u rfl) rfl rfl ?_
        refine LR.nil ?_
        refine hK30 _ _ ?_
        refine CW.seq (fun K31 hK31 hE31 => ?_)
        refine CW.region ?_
        refine LR.v (Y.move rfl rfl) (Wd.u rfl) rfl rfl ?_
        -- call (*selvage/simfs.FS).Read
        refine LR.call rfl Tryd.call18 rfl (Wd.u rfl) rfl rfl (read_ct mx_ K40 g40 b22 (ownD data) [120] w0 _ mx (bf_mx.mono (by omega)) hf (by decide) (fun i => by have := (hS40.f i).1; omega)) (fun v69 H69 r69 => ?_)
        obtain ⟨s69, k69, rfl, ow69, hk69, hs69⟩ := r69
        have df59 := DF.app (DF.z) (bf_mx.mono hm0.size) hk69
        have df60 := DF.app (DF.z) (bf_hd.mono hm0.size) hk69
        have dj61 : DL k69 K40 := DL.app2 (DL.zK) hf.bk hk69
        have dj62 : DL k69 Q26 := DL.app2 (DL.zK) hfg.bk hk69
        have dj63 : Dj k37 k69 := Dj.app (Dj.z) ow37.le hk69
        have dj64 : Dj k66 k69 := Dj.app (Dj.z) ow66.le hk69
        have nx65 : Nx 0 H0.size k69 := Nx.tr (Nx.refl 0 _) hk69 hm0.size
        replace mx := mx.nw hs69
        replace hd := hd.nw hs69
        replace hf := hf.nw hs69
        replace hfg := hfg.nw hs69
        replace ow37 := ow37.nw hs69
        replace ow66 := ow66.nw hs69
        replace hm0 := hm0.tr hs69
        have hz14 := hs69.size
        have hle_ow69 := ow69.le
        refine LR.v (Y.move rfl rfl) (Wd.u rfl) rfl rfl ?_
        refine LR.v (Y.extract rfl rfl rfl) (Wd.u rfl) rfl rfl ?_
        refine LR.v (Y.extract rfl rfl rfl) (Wd.u rfl) rfl rfl ?_
        refine LR.v (Y.assign rfl rfl) (Wd.u rfl) rfl rfl ?_
        refine LR.v (Y.assign rfl rfl) (Wd.u rfl) rfl rfl ?_
        refine LR.nil ?_
        refine hK31 _ _ ?_
        refine CW.seq (fun K32 hK32 hE32 => ?_)
        refine CW.region ?_
        refine LR.v (Y.move rfl rfl) (Wd.u rfl) rfl rfl ?_
        -- call (*selvage/simfs.FS).Read
        refine LR.call rfl Tryd.call18 rfl (Wd.u rfl) rfl rfl (read_ct mx_ Q26 g26 b26 (Dk.empty 65536 4096) [120] w0 _ mx (bf_mx.mono (by omega)) hfg (by decide) (fun i => by have := (hS26.f i).1; omega)) (fun v74 H74 r74 => ?_)
        obtain ⟨s74, k74, rfl, ow74, hk74, hs74⟩ := r74
        have df66 := DF.app (DF.z) (bf_mx.mono hm0.size) hk74
        have df67 := DF.app (DF.z) (bf_hd.mono hm0.size) hk74
        have dj68 : DL k74 K40 := DL.app2 (DL.zK) hf.bk hk74
        have dj69 : DL k74 Q26 := DL.app2 (DL.zK) hfg.bk hk74
        have dj70 : Dj k37 k74 := Dj.app (Dj.z) ow37.le hk74
        have dj71 : Dj k66 k74 := Dj.app (Dj.z) ow66.le hk74
        have dj72 : Dj k69 k74 := Dj.app (Dj.z) ow69.le hk74
        have nx73 : Nx 0 H0.size k74 := Nx.tr (Nx.refl 0 _) hk74 hm0.size
        replace mx := mx.nw hs74
        replace hd := hd.nw hs74
        replace hf := hf.nw hs74
        replace hfg := hfg.nw hs74
        replace ow37 := ow37.nw hs74
        replace ow66 := ow66.nw hs74
        replace ow69 := ow69.nw hs74
        replace hm0 := hm0.tr hs74
        have hz15 := hs74.size
        have hle_ow74 := ow74.le
        refine LR.v (Y.move rfl rfl) (Wd.u rfl) rfl rfl ?_
        refine LR.v (Y.extract rfl rfl rfl) (Wd.u rfl) rfl rfl ?_
        refine LR.v (Y.extract rfl rfl rfl) (Wd.u rfl) rfl rfl ?_
        refine LR.v (Y.assign rfl rfl) (Wd.u rfl) rfl rfl ?_
        refine LR.v (Y.assign rfl rfl) (Wd.u rfl) rfl rfl ?_
        refine LR.nil ?_
        refine hK32 _ _ ?_
        refine CW.seq (fun K33 hK33 hE33 => ?_)
        refine CW.region ?_
        refine LR.v (Y.move rfl rfl) (Wd.u rfl) rfl rfl ?_
        refine LR.v ((Y.eql rfl rfl rfl).isT ((by rw [q1]; rfl))) (Wd.u rfl) rfl rfl ?_
        refine LR.v (Y.move rfl rfl) (Wd.u rfl) rfl rfl ?_
        refine LR.v (Y.move rfl rfl) (Wd.g rfl rfl rfl) rfl rfl ?_
        refine LR.v (Y.bstr ow69.rd rfl Tryd.underlying25 Tryd.underlying9 Tryd.underlying5 rfl) (Wd.g rfl rfl rfl) rfl rfl ?_
        refine LR.v (Y.move rfl rfl) (Wd.g rfl rfl rfl) rfl rfl ?_
        refine LR.v (Y.bstr hd rfl Tryd.underlying25 Tryd.underlying9 Tryd.underlying5 rfl) (Wd.g rfl rfl rfl) rfl rfl ?_
        refine LR.v ((Y.seql rfl rfl rfl).isT ((by rw [q2]))) (Wd.g rfl rfl rfl) rfl rfl ?_
        refine LR.v (Y.pick_t rfl rfl rfl) (Wd.u rfl) rfl rfl ?_
        refine LR.v (Y.move rfl rfl) (Wd.u rfl) rfl rfl ?_
        refine LR.v (Y.move rfl rfl) (Wd.g rfl rfl rfl) rfl rfl ?_
        refine LR.v ((Y.eql rfl rfl rfl).isT ((by rw [own_2.1]; rfl))) (Wd.g rfl rfl rfl) rfl rfl ?_
        refine LR.v (Y.pick_t rfl rfl rfl) (Wd.u rfl) rfl rfl ?_
        refine LR.v (Y.move rfl rfl) (Wd.u rfl) rfl rfl ?_
        refine LR.v (Y.move rfl rfl) (Wd.g rfl rfl rfl) rfl rfl ?_
        -- call (*selvage/simfs.FS).Used
        refine LR.call rfl Tryd.call19 rfl (Wd.g rfl rfl rfl) rfl rfl (used_ct Q26 g26 b26 (Dk.empty 65536 4096) w0 _ hfg hS26.an (by rw [own_2.2]; decide)) (fun v92 H92 r92 => ?_)
        obtain ⟨rfl, hs92⟩ := r92
        replace mx := mx.nw hs92
        replace hd := hd.nw hs92
        replace hf := hf.nw hs92
        replace hfg := hfg.nw hs92
        replace ow37 := ow37.nw hs92
        replace ow66 := ow66.nw hs92
        replace ow69 := ow69.nw hs92
        replace ow74 := ow74.nw hs92
        replace hm0 := hm0.tr hs92
        have hz16 := hs92.size
        refine LR.v ((Y.eql rfl rfl rfl).isT ((by rw [own_2.2]; rfl))) (Wd.g rfl rfl rfl) rfl rfl ?_
        refine LR.v (Y.pick_t rfl rfl rfl) (Wd.u rfl) rfl rfl ?_
        refine LR.v (Y.move rfl rfl) (Wd.u rfl) rfl rfl ?_
        refine LR.v (Y.move rfl rfl) (Wd.g rfl rfl rfl) rfl rfl ?_
        -- call (*selvage/simfs.FS).Used
        refine LR.call rfl Tryd.call19 rfl (Wd.g rfl rfl rfl) rfl rfl (used_ct K40 g40 b22 (ownD data) w0 _ hf q4 (by rw [q3]; omega)) (fun v97 H97 r97 => ?_)
        obtain ⟨rfl, hs97⟩ := r97
        replace mx := mx.nw hs97
        replace hd := hd.nw hs97
        replace hf := hf.nw hs97
        replace hfg := hfg.nw hs97
        replace ow37 := ow37.nw hs97
        replace ow66 := ow66.nw hs97
        replace ow69 := ow69.nw hs97
        replace ow74 := ow74.nw hs97
        replace hm0 := hm0.tr hs97
        have hz17 := hs97.size
        refine LR.v (Y.move rfl rfl) (Wd.g rfl rfl rfl) rfl rfl ?_
        refine LR.v (Y.len hd rfl Tryd.runUnderlying25 rfl) (Wd.g rfl rfl rfl) rfl rfl ?_
        refine LR.v ((Y.eql rfl rfl rfl).isT ((by rw [q3]))) (Wd.g rfl rfl rfl) rfl rfl ?_
        refine LR.v (Y.pick_t rfl rfl rfl) (Wd.u rfl) rfl rfl ?_
        refine LR.v (Y.move rfl rfl) (Wd.u rfl) rfl rfl ?_
        refine LR.v (Y.move rfl rfl) (Wd.g rfl rfl rfl) rfl rfl ?_
        refine LR.v (Y.len ow66.rd rfl Tryd.runUnderlying25 rfl) (Wd.g rfl rfl rfl) rfl rfl ?_
        refine LR.v ((Y.geq rfl rfl rfl).isT ((by simp only [List.length_append, List.length_cons, List.length_nil]; omega))) (Wd.g rfl rfl rfl) rfl rfl ?_
        refine LR.v (Y.pick_t rfl rfl rfl) (Wd.u rfl) rfl rfl ?_
        refine LR.v (Y.assign rfl rfl) (Wd.u rfl) rfl rfl ?_
        refine LR.nil ?_
        refine hK33 _ _ ?_
        refine CW.ret (hret .ret (.inr rfl) _ _ _ (res1 rfl rfl) ?_)
        exact ⟨rfl, hm0⟩

end Go.Proofs.YtfbfjhppppoilaaDoor.SimW
