/-
  The disk: of changes that were not synced a front stays (the statement SimfsOrder's function).
-/
import Derived.Test.YtfbfjhppppoilaaDoorSimYC
namespace Go.Proofs.YtfbfjhppppoilaaDoor.SimYD
open Go.Proofs.YtfbfjhppppoilaaDoor.E Go.RowKit Go.Proofs.YtfbfjhppppoilaaDoor.SimA Go.Proofs.YtfbfjhppppoilaaDoor.SimB Go.Proofs.YtfbfjhppppoilaaDoor.SimC Go.Proofs.YtfbfjhppppoilaaDoor.SimD Go.Proofs.YtfbfjhppppoilaaDoor.SimE Go.Proofs.YtfbfjhppppoilaaDoor.SimF Go.Proofs.YtfbfjhppppoilaaDoor.SimG Go.Proofs.YtfbfjhppppoilaaDoor.SimH Go.Proofs.YtfbfjhppppoilaaDoor.SimI Go.Proofs.YtfbfjhppppoilaaDoor.SimJ Go.Proofs.YtfbfjhppppoilaaDoor.SimK Go.Proofs.YtfbfjhppppoilaaDoor.SimL Go.Proofs.YtfbfjhppppoilaaDoor.SimM Go.Proofs.YtfbfjhppppoilaaDoor.SimN Go.Proofs.YtfbfjhppppoilaaDoor.SimP Go.Proofs.YtfbfjhppppoilaaDoor.SimQ Go.Proofs.YtfbfjhppppoilaaDoor.SimR Go.Proofs.YtfbfjhppppoilaaDoor.SimS Go.Proofs.YtfbfjhppppoilaaDoor.SimU Go.Proofs.YtfbfjhppppoilaaDoor.SimY Go.Proofs.YtfbfjhppppoilaaDoor.SimYC
set_option maxRecDepth 20000
set_option linter.unusedVariables false
set_option linter.unusedSimpArgs false
set_option linter.unusedSectionVars false
set_option maxRecDepth 100000 in
theorem inf25 : Inf Tryd.prog 25 5 1 1 := ⟨Tryd.underlying25, _, _, rfl, rfl, rfl, rfl, rfl⟩
set_option maxRecDepth 100000 in
theorem inf35 : Inf Tryd.prog 35 3 1 8 := ⟨Tryd.underlying35, _, _, rfl, rfl, rfl, rfl, rfl⟩

theorem b8 {i : Nat} : UInt8.ofNat (Int.toNat ((97 : Int) + i) % 256) = UInt8.ofNat (97 + i) := by
  rw [show Int.toNat ((97 : Int) + i) = 97 + i by omega]
  apply UInt8.toNat.inj; simp

set_option maxHeartbeats 8000000 in
theorem order_ct (mx_ : Int) (nn pick : Int) (w0 : World) (H0 : Heap)
    (mx : MX mx_ H0) (bf_mx : BF (fun b => b = 0) H0.size) (hnn : -9223372036854775808 ≤ nn ∧ nn ≤ 9223372036854775807) (hpk : -9223372036854775808 ≤ pick ∧ pick ≤ 9223372036854775807) :
    Ct Tryd.prog w0 7 #[.int .i64 nn, .int .i64 pick] H0 (fun r H2 => r = .bool true ∧ Nw H0 H2) := by
  refine Ct.enter (args := [.int .i64 nn, .int .i64 pick]) Tryd.func7 rfl rfl rfl ?_
  intro Q0 hret
  have hm0 : Nw H0 H0 := Mo.refl _ _
  refine CW.seq (fun K1 hK1 hE1 => ?_)
  refine CW.region ?_
  refine LR.v (Y.assign rfl rfl) (Wd.u rfl) rfl rfl ?_
  refine LR.nil ?_
  refine hK1 _ _ ?_
  refine CW.seq (fun K2 hK2 hE2 => ?_)
  refine CW.seq (fun K3 hK3 hE3 => ?_)
  refine CW.region ?_
  -- call selvage/selvagelaw2.known
  refine LR.call rfl Tryd.call11 rfl (Wd.u rfl) rfl rfl (known_ct mx_ w0 _ mx bf_mx) (fun v14 H14 r14 => ?_)
  obtain ⟨rfl, hs14⟩ := r14
  replace mx := mx.nw hs14
  replace hm0 := hm0.tr hs14
  have hz1 := hs14.size
  refine LR.v (Y.not rfl rfl) (Wd.u rfl) rfl rfl ?_
  refine LR.nil ?_
  refine hK3 _ _ ?_
  refine CW.cond_f rfl ?_
  refine CW.skip ?_
  refine hK2 _ _ ?_
  refine CW.seq (fun K4 hK4 hE4 => ?_)
  refine CW.region ?_
  -- call selvage/simfs.New
  refine LR.call rfl Tryd.call16 rfl (Wd.u rfl) rfl rfl (new_ct 65536 1024 w0 _ (by decide) (by decide)) (fun v17 H17 r17 => ?_)
  obtain ⟨Q17, g17, b17, rfl, hf, hkn17, hs17⟩ := r17
  have df1 := DFL.appK (DFL.nil) (bf_mx.mono hm0.size) hkn17
  have nx2 : NxK [] H0.size Q17 := NxK.tr (NxK.refl [] _) hkn17 hm0.size
  replace mx := mx.nw hs17
  replace hm0 := hm0.tr hs17
  have hz2 := hs17.size
  have hbk_hf := hf.bk
  have hS17 := Bs.empty 65536 1024
  refine LR.v (Y.move rfl rfl) (Wd.u rfl) rfl rfl ?_
  refine LR.v (Y.extract rfl rfl rfl) (Wd.u rfl) rfl rfl ?_
  refine LR.v (Y.extract rfl rfl rfl) (Wd.u rfl) rfl rfl ?_
  refine LR.v (Y.assign rfl rfl) (Wd.u rfl) rfl rfl ?_
  refine LR.v (Y.assign rfl rfl) (Wd.u rfl) rfl rfl ?_
  refine LR.nil ?_
  refine hK4 _ _ ?_
  refine CW.seq (fun K5 hK5 hE5 => ?_)
  refine CW.seq (fun K6 hK6 hE6 => ?_)
  refine CW.region ?_
  refine LR.v (Y.move rfl rfl) (Wd.u rfl) rfl rfl ?_
  refine LR.v ((Y.neq rfl rfl rfl).isF ((fun h => h rfl))) (Wd.u rfl) rfl rfl ?_
  refine LR.v (Y.move rfl rfl) (Wd.u rfl) rfl rfl ?_
  refine LR.v (Y.move rfl rfl) (Wd.g rfl rfl rfl) rfl rfl ?_
  refine LR.v (Y.peq rfl (by kernel_rfl) (by kernel_rfl) rfl rfl) (Wd.g rfl rfl rfl) rfl rfl ?_
  refine LR.v (Y.pick_f rfl rfl rfl) (Wd.u rfl) rfl rfl ?_
  refine LR.nil ?_
  refine hK6 _ _ ?_
  refine CW.cond_f rfl ?_
  refine CW.skip ?_
  refine hK5 _ _ ?_
  refine CW.seq (fun K7 hK7 hE7 => ?_)
  refine CW.region ?_
  refine LR.v (Y.move rfl rfl) (Wd.u rfl) rfl rfl ?_
  -- call selvage/selvagelaw2.within
  refine LR.call rfl Tryd.call20 rfl (Wd.u rfl) rfl rfl (within_ct nn 9 w0 _ (by omega) hnn) (fun v27 H27 r27 => ?_)
  obtain ⟨rfl, hs27⟩ := r27
  replace mx := mx.nw hs27
  replace hf := hf.nw hs27
  replace hm0 := hm0.tr hs27
  have hz3 := hs27.size
  obtain ⟨n, hn⟩ : ∃ n, n = 1 + wiN nn 9 := ⟨_, rfl⟩
  have hnl := wiN_lt (a := nn) (show 0 < 9 by omega)
  refine LR.v (Y.cast (v2 := .int .i64 (n : Int)) (Y.addi rfl rfl rfl (by omega)) (ivv (by omega))) (Wd.u rfl) rfl rfl ?_
  refine LR.v (Y.assign rfl rfl) (Wd.u rfl) rfl rfl ?_
  refine LR.nil ?_
  refine hK7 _ _ ?_
  refine CW.seq (fun K8 hK8 hE8 => ?_)
  refine CW.seq (fun K9 hK9 hE9 => ?_)
  refine CW.region ?_
  refine LR.v (Y.assign rfl rfl) (Wd.u rfl) rfl rfl ?_
  refine LR.nil ?_
  refine hK9 _ _ ?_
  refine CW.block (fun K10 hK10 hX10 hE10 => ?_)
  refine CW.loop (fun (s_ : (Nat) × (List Nat) × (Gh)) => match s_ with | (i, Ki, gi) => [(0, .int .i64 (n : Int)), (1, .int .i64 pick), (5, ptr b17), (7, .int .i64 (i : Int))])
    (fun (s_ : (Nat) × (List Nat) × (Gh)) (H : Heap) => match s_ with | (i, Ki, gi) => (PDk Ki gi H b17 (ordD i)) ∧ (i ≤ n) ∧ (NxK Q17 H27.size Ki) ∧ Mo (Ms Q17) H27 H)
    (fun (s_ : (Nat) × (List Nat) × (Gh)) => match s_ with | (i, Ki, gi) => n - i) (0, Q17, g17) ⟨rfl, rfl, rfl, rfl, trivial⟩ ?_ ?_
  ·
    exact ⟨hf, (by omega), NxK.refl _ _, Mo.refl _ _⟩
  rintro ⟨i, Ki, gi⟩ HL1 hI1 K11 hN11 hE11
  obtain ⟨hf, hi, nxl_hf, hlm1⟩ := hI1
  have df3 := DFL.appK (df1) (bf_mx.mono hm0.size) nxl_hf
  have nx4 : NxK [] H0.size Ki := NxK.tr (nx2) nxl_hf hm0.size
  replace mx := mx.upL hlm1 (df1)
  replace hm0 := (Mo.trL (ks := []) (hm0.mdn []) hlm1 (MIL.ofK0 (nx2))).nil
  have hz4 := hlm1.size
  have hbk_hf := hf.bk
  have nx5 := nxl_hf
  have hSi := ordD_bs i
  refine CW.seq (fun K12 hK12 hE12 => ?_)
  refine CW.seq (fun K13 hK13 hE13 => ?_)
  refine CW.region ?_
  refine LR.v (Y.move rfl rfl) (Wd.u rfl) rfl rfl ?_
  refine LR.v (Y.move rfl rfl) (Wd.u rfl) rfl rfl ?_
  refine LR.v (Y.lss rfl rfl rfl) (Wd.u rfl) rfl rfl ?_
  refine LR.nil ?_
  refine hK13 _ _ ?_
  refine CW.condp rfl (fun c31 => ?_) (fun c31 => ?_)
  ·
    have hil : i < n := by omega
    refine CW.skip ?_
    refine hK12 _ _ ?_
    refine CW.seq (fun K14 hK14 hE14 => ?_)
    refine CW.block (fun K15 hK15 hX15 hE15 => ?_)
    refine CW.seq (fun K16 hK16 hE16 => ?_)
    refine CW.region ?_
    refine LR.v (Y.move rfl rfl) (Wd.u rfl) rfl rfl ?_
    refine LR.v (Y.move rfl rfl) (Wd.u rfl) rfl rfl ?_
    refine LR.v (Y.cast (v2 := .int .i64 ((97 + i : Nat) : Int)) (Y.addi rfl rfl rfl (by omega)) (ivv (by omega))) (Wd.u rfl) rfl rfl ?_
    refine LR.v (Y.cast (v2 := .int .u8 (UInt8.ofNat (97 + i)).toNat) (Y.conv_u8 rfl Tryd.runUnderlying3 Tryd.runUnderlying5 rfl) (by first | rfl | (congr 1))) (Wd.u rfl) rfl rfl ?_
    refine LR.z (Z.litw _ ([UInt8.ofNat (97 + i)]) rfl inf25 rfl rfl rfl (by decide) (by decide) fB_len fB_one (rfl)) (Wd.u rfl) rfl rfl (fun v38 H38 r38 => ?_)
    obtain ⟨ow38, hs38, ob38, hH38⟩ := r38
    have hzs38 : H38.size = HL1.size + 1 := by rw [hH38]; simp
    have df6 := (DF.new (bf_mx.mono hm0.size) : DF _ (HL1.size + 1))
    have dj7 : DL (HL1.size + 1) Ki := DL.newK hf.bk
    have nx8 : Nx 0 H0.size (HL1.size + 1) := Nx.new hm0.size
    have nx9 : Nx 0 H27.size (HL1.size + 1) := Nx.new hlm1.size
    replace mx := mx.nw hs38
    replace hf := hf.nw hs38
    replace hm0 := hm0.tr hs38
    replace hlm1 := hlm1.trN hs38
    have hz5 := hs38.size
    refine LR.v (Y.bstr ow38.rd rfl Tryd.underlying25 Tryd.underlying9 Tryd.underlying5 rfl) (Wd.u rfl) rfl rfl ?_
    refine LR.v (Y.cast (v2 := Str (ordP i)) (Y.sadd rfl rfl rfl (by simp)) (rfl)) (Wd.u rfl) rfl rfl ?_
    refine LR.v (Y.move rfl rfl) (Wd.u rfl) rfl rfl ?_
    refine LR.v (Y.cast (v2 := .int .u8 (UInt8.ofNat i).toNat) (Y.conv_u8 rfl Tryd.runUnderlying3 Tryd.runUnderlying5 rfl) (by first | rfl | (congr 1))) (Wd.u rfl) rfl rfl ?_
    refine LR.z (Z.litw _ (([UInt8.ofNat i] : List UInt8)) rfl inf25 rfl rfl rfl (by decide) (by decide) fB_len fB_one (rfl)) (Wd.u rfl) rfl rfl (fun v43 H43 r43 => ?_)
    obtain ⟨ow43, hs43, ob43, hH43⟩ := r43
    have hzs43 : H43.size = H38.size + 1 := by rw [hH43]; simp
    have df10 := (DF.new (bf_mx.mono hm0.size) : DF _ (H38.size + 1))
    have dj11 : DL (H38.size + 1) Ki := DL.newK hf.bk
    have dj12 : Dj (HL1.size + 1) (H38.size + 1) := Dj.new ow38.le
    have nx13 : Nx 0 H0.size (H38.size + 1) := Nx.new hm0.size
    have nx14 : Nx 0 H27.size (H38.size + 1) := Nx.new hlm1.size
    replace mx := mx.nw hs43
    replace hf := hf.nw hs43
    replace ow38 := ow38.nw hs43
    replace hm0 := hm0.tr hs43
    replace hlm1 := hlm1.trN hs43
    have hz6 := hs43.size
    obtain ⟨s43, rfl⟩ : ∃ s : SV, v43 = s.v := ⟨toSV v43, ow43.sv.symm⟩
    -- call (*selvage/simfs.FS).Write
    refine LR.call rfl Tryd.call17 rfl (Wd.u rfl) rfl rfl (write_ct mx_ Ki gi b17 (ordD i) (ordP i) s43 [UInt8.ofNat i] _ w0 _ hf mx (bf_mx.mono (by omega)) (df3) ow43.rd (BF.of ow43.le) (DFL.of (dj11)) (by show 3 ≤ _; decide) (hSi.bd (by omega)) (by simp)) (fun v44 H44 r44 => ?_)
    have ql15 := hf.bk
    have ql16 := ow38.le
    have ql17 := ow43.le
    obtain ⟨K44, g44, rfl, hf, hkd44, hs44⟩ := r44
    have df18 := DFL.appK (df3) (bf_mx.mono hm0.size) hkd44
    have dj19 : DL (HL1.size + 1) K44 := DL.appK (dj7) ql16 hkd44
    have dj20 : DL (H38.size + 1) K44 := DL.appK (dj11) ql17 hkd44
    have nx21 : NxK [] H0.size K44 := NxK.tr (nx4) hkd44 hm0.size
    have nx22 : NxK Q17 H27.size K44 := NxK.tr (nx5) hkd44 hlm1.size
    replace mx := mx.upL hs44 (df3)
    replace ow38 := ow38.upL hs44 (dj7)
    replace ow43 := ow43.upL hs44 (dj11)
    replace hm0 := (Mo.trL (ks := []) (hm0.mdn []) hs44 (MIL.ofK0 (nx4))).nil
    replace hlm1 := hlm1.trL hs44 (MIL.ofK (nx5) (by intro k hk; simp [hk]))
    have hz7 := hs44.size
    have hbk_hf := hf.bk
    have hS44 := hSi.lay (ordP i) ⟨false, [UInt8.ofNat i]⟩
    simp only [List.length_cons, List.length_nil, Nat.zero_add] at hS44
    refine LR.nil ?_
    refine hK16 _ _ ?_
    refine CW.region ?_
    refine LR.v (Y.move rfl rfl) (Wd.u rfl) rfl rfl ?_
    refine LR.v (Y.move rfl rfl) (Wd.u rfl) rfl rfl ?_
    refine LR.v (Y.cast (v2 := .int .i64 ((97 + i : Nat) : Int)) (Y.addi rfl rfl rfl (by omega)) (ivv (by omega))) (Wd.u rfl) rfl rfl ?_
    refine LR.v (Y.cast (v2 := .int .u8 (UInt8.ofNat (97 + i)).toNat) (Y.conv_u8 rfl Tryd.runUnderlying3 Tryd.runUnderlying5 rfl) (by first | rfl | (congr 1))) (Wd.u rfl) rfl rfl ?_
    refine LR.z (Z.litw _ ([UInt8.ofNat (97 + i)]) rfl inf25 rfl rfl rfl (by decide) (by decide) fB_len fB_one (rfl)) (Wd.u rfl) rfl rfl (fun v49 H49 r49 => ?_)
    obtain ⟨ow49, hs49, ob49, hH49⟩ := r49
    have hzs49 : H49.size = H44.size + 1 := by rw [hH49]; simp
    have df23 := (DF.new (bf_mx.mono hm0.size) : DF _ (H44.size + 1))
    have dj24 : DL (H44.size + 1) K44 := DL.newK hf.bk
    have nx25 : Nx 0 H0.size (H44.size + 1) := Nx.new hm0.size
    have nx26 : Nx 0 H27.size (H44.size + 1) := Nx.new hlm1.size
    replace mx := mx.nw hs49
    replace hf := hf.nw hs49
    replace hm0 := hm0.tr hs49
    replace hlm1 := hlm1.trN hs49
    have hz8 := hs49.size
    refine LR.v (Y.bstr ow49.rd rfl Tryd.underlying25 Tryd.underlying9 Tryd.underlying5 rfl) (Wd.u rfl) rfl rfl ?_
    refine LR.v (Y.cast (v2 := Str (ordP i)) (Y.sadd rfl rfl rfl (by simp)) (rfl)) (Wd.u rfl) rfl rfl ?_
    -- call (*selvage/simfs.FS).Sync
    refine LR.call rfl Tryd.call23 rfl (Wd.u rfl) rfl rfl (sync_ct mx_ K44 g44 b17 ((ordD i).lay (ordP i) ⟨false, [UInt8.ofNat i]⟩).2 (ordP i) w0 _ hf mx (bf_mx.mono (by omega)) (df18) (by show 3 ≤ _; decide) (hS44.bd (by omega))) (fun v52 H52 r52 => ?_)
    have ql27 := hf.bk
    have ql28 := ow49.le
    obtain ⟨K52, g52, rfl, hf, hkd52, hs52⟩ := r52
    have df29 := DFL.appK (df18) (bf_mx.mono hm0.size) hkd52
    have dj30 : DL (H44.size + 1) K52 := DL.appK (dj24) ql28 hkd52
    have nx31 : NxK [] H0.size K52 := NxK.tr (nx21) hkd52 hm0.size
    have nx32 : NxK Q17 H27.size K52 := NxK.tr (nx22) hkd52 hlm1.size
    replace mx := mx.upL hs52 (df18)
    replace ow49 := ow49.upL hs52 (dj24)
    replace hm0 := (Mo.trL (ks := []) (hm0.mdn []) hs52 (MIL.ofK0 (nx21))).nil
    replace hlm1 := hlm1.trL hs52 (MIL.ofK (nx22) (by intro k hk; simp [hk]))
    have hz9 := hs52.size
    have hbk_hf := hf.bk
    refine LR.nil ?_
    refine hK15 _ _ ?_
    refine hK14 _ _ ?_
    refine CW.region ?_
    refine LR.v (Y.move rfl rfl) (Wd.u rfl) rfl rfl ?_
    refine LR.v (Y.addi rfl rfl rfl (by omega)) (Wd.u rfl) rfl rfl ?_
    refine LR.v (Y.assign rfl rfl) (Wd.u rfl) rfl rfl ?_
    refine LR.nil ?_
    refine QN.sub (hN11 (i + 1, K52, g52) _ ?_ ?_) ⟨(iv (by omega)), (iv (by omega)), rfl, (iv (by omega)), trivial⟩
    · exact ⟨hf, (by omega), nx32, hlm1⟩
    · first | omega | (simp only; omega) | (simp; omega)
  ·
    have hie : i = n := by omega
    rw [hie] at hf hSi
    obtain ⟨q1, q2, q3, q4⟩ := ord_all (n := n) pick (by omega) (by omega)
    have hkl := wiN_lt (a := pick) (show 0 < n + 1 by omega)
    obtain ⟨k, hk⟩ : ∃ k, k = wiN pick (n + 1) := ⟨_, rfl⟩
    rw [← hk] at q3 q4 hkl
    refine CW.exit (hE12 (.exit 0) nofun _ _ (hE11 (.exit 0) nofun _ _ (hX10 _ _ ?_)))
    refine hK8 _ _ ?_
    refine CW.seq (fun K17 hK17 hE17 => ?_)
    refine CW.region ?_
    refine LR.v (Y.move rfl rfl) (Wd.u rfl) rfl rfl ?_
    refine LR.v (Y.move rfl rfl) (Wd.u rfl) rfl rfl ?_
    refine LR.v (Y.cast (v2 := .int .i64 ((n + 1 : Nat) : Int)) (Y.addi rfl rfl rfl (by omega)) (ivv (by omega))) (Wd.u rfl) rfl rfl ?_
    -- call selvage/selvagelaw2.within
    refine LR.call rfl Tryd.call20 rfl (Wd.u rfl) rfl rfl (within_ct pick (n + 1) w0 _ (by omega) hpk) (fun v56 H56 r56 => ?_)
    obtain ⟨rfl, hs56⟩ := r56
    replace mx := mx.nw hs56
    replace hf := hf.nw hs56
    replace hm0 := hm0.tr hs56
    have hz10 := hs56.size
    refine LR.v (Y.cast (v2 := .int .i64 (k : Int)) (Y.assign rfl rfl) (by rw [hk])) (Wd.u rfl) rfl rfl ?_
    refine LR.nil ?_
    refine hK17 _ _ ?_
    refine CW.seq (fun K18 hK18 hE18 => ?_)
    refine CW.seq (fun K19 hK19 hE19 => ?_)
    refine CW.region ?_
    refine LR.v (Y.move rfl rfl) (Wd.u rfl) rfl rfl ?_
    refine LR.v (Y.move rfl rfl) (Wd.u rfl) rfl rfl ?_
    refine LR.z (Z.litw _ (([pick] : List Int)) rfl inf35 rfl rfl rfl (by decide) (by decide) fI_len fI_one (rfl)) (Wd.u rfl) rfl rfl (fun v59 H59 r59 => ?_)
    obtain ⟨ow59, hs59, ob59, hH59⟩ := r59
    have hzs59 : H59.size = H56.size + 1 := by rw [hH59]; simp
    have df33 := (DF.new (bf_mx.mono hm0.size) : DF _ (H56.size + 1))
    have dj34 : DL (H56.size + 1) Ki := DL.newK hf.bk
    have nx35 : Nx 0 H0.size (H56.size + 1) := Nx.new hm0.size
    replace mx := mx.nw hs59
    replace hf := hf.nw hs59
    replace hm0 := hm0.tr hs59
    have hz11 := hs59.size
    obtain ⟨s59, rfl⟩ : ∃ s : SV, v59 = s.v := ⟨toSV v59, ow59.sv.symm⟩
    -- call (*selvage/simfs.FS).Crash
    refine LR.call rfl Tryd.call25 rfl (Wd.u rfl) rfl rfl (crash_ct Ki gi b17 (ordD n) _ s59 [pick] w0 _ hf ow59.rd (BF.of ow59.le) (DFL.of (dj34)) (hSi.bd (by omega)) (hSi.wy (by omega)) (fun x hx => by rw [List.mem_singleton.1 hx]; exact hpk)) (fun v60 H60 r60 => ?_)
    have ql36 := hf.bk
    have ql37 := ow59.le
    obtain ⟨K60, g60, rfl, hf, hkd60, hs60⟩ := r60
    have df38 := DFL.appK (df3) (bf_mx.mono hm0.size) hkd60
    have dj39 : DL (H56.size + 1) K60 := DL.appK (dj34) ql37 hkd60
    have nx40 : NxK [] H0.size K60 := NxK.tr (nx4) hkd60 hm0.size
    replace mx := mx.upL hs60 (df3)
    replace ow59 := ow59.upL hs60 (dj34)
    replace hm0 := (Mo.trL (ks := []) (hm0.mdn []) hs60 (MIL.ofK0 (nx4))).nil
    have hz12 := hs60.size
    have hbk_hf := hf.bk
    have hSe := hSi.crash [pick]
    refine LR.v ((Y.neq rfl rfl rfl).isF ((fun h => h (by rw [q1]; rfl)))) (Wd.u rfl) rfl rfl ?_
    refine LR.nil ?_
    refine hK19 _ _ ?_
    refine CW.cond_f rfl ?_
    refine CW.skip ?_
    refine hK18 _ _ ?_
    refine CW.seq (fun K20 hK20 hE20 => ?_)
    refine CW.region ?_
    refine LR.v (Y.move rfl rfl) (Wd.u rfl) rfl rfl ?_
    -- call (*selvage/simfs.FS).List
    refine LR.call rfl Tryd.call26 rfl (Wd.u rfl) rfl rfl (list_ct mx_ K60 g60 b17 ((ordD n).crash [pick]) [100] w0 _ hf mx (bf_mx.mono (by omega)) (by decide) hSe.an (by have := (hSe.bd (by omega)).nl; omega)) (fun v64 H64 r64 => ?_)
    obtain ⟨s64, k64, rfl, ow64, hk64, hs64⟩ := r64
    have df41 := DF.app (DF.z) (bf_mx.mono hm0.size) hk64
    have dj42 : DL k64 K60 := DL.app2 (DL.zK) hf.bk hk64
    have nx43 : Nx 0 H0.size k64 := Nx.tr (Nx.refl 0 _) hk64 hm0.size
    replace mx := mx.nw hs64
    replace hf := hf.nw hs64
    replace hm0 := hm0.tr hs64
    have hz13 := hs64.size
    have hle_ow64 := ow64.le
    refine LR.v (Y.move rfl rfl) (Wd.u rfl) rfl rfl ?_
    refine LR.v (Y.extract rfl rfl rfl) (Wd.u rfl) rfl rfl ?_
    refine LR.v (Y.extract rfl rfl rfl) (Wd.u rfl) rfl rfl ?_
    refine LR.v (Y.assign rfl rfl) (Wd.u rfl) rfl rfl ?_
    refine LR.v (Y.assign rfl rfl) (Wd.u rfl) rfl rfl ?_
    refine LR.nil ?_
    refine hK20 _ _ ?_
    refine CW.seq (fun K21 hK21 hE21 => ?_)
    refine CW.seq (fun K22 hK22 hE22 => ?_)
    refine CW.region ?_
    refine LR.v (Y.move rfl rfl) (Wd.u rfl) rfl rfl ?_
    refine LR.v ((Y.neq rfl rfl rfl).isF ((fun h => h (by rw [q2]; rfl)))) (Wd.u rfl) rfl rfl ?_
    refine LR.v (Y.move rfl rfl) (Wd.u rfl) rfl rfl ?_
    refine LR.v (Y.move rfl rfl) (Wd.g rfl rfl rfl) rfl rfl ?_
    refine LR.v (Y.cast (v2 := .int .i64 (k : Int)) (Y.len ow64.rd rfl Tryd.runUnderlying42 rfl) (by rw [q3]; simp)) (Wd.g rfl rfl rfl) rfl rfl ?_
    refine LR.v (Y.move rfl rfl) (Wd.g rfl rfl rfl) rfl rfl ?_
    refine LR.v ((Y.neq rfl rfl rfl).isF ((fun h => h rfl))) (Wd.g rfl rfl rfl) rfl rfl ?_
    refine LR.v (Y.pick_f rfl rfl rfl) (Wd.u rfl) rfl rfl ?_
    refine LR.nil ?_
    refine hK22 _ _ ?_
    refine CW.cond_f rfl ?_
    refine CW.skip ?_
    refine hK21 _ _ ?_
    refine CW.seq (fun K23 hK23 hE23 => ?_)
    refine CW.seq (fun K24 hK24 hE24 => ?_)
    refine CW.region ?_
    refine LR.v (Y.assign rfl rfl) (Wd.u rfl) rfl rfl ?_
    refine LR.nil ?_
    refine hK24 _ _ ?_
    refine CW.block (fun K25 hK25 hX25 hE25 => ?_)
    refine CW.loop (fun (i : (Nat)) => [(5, ptr b17), (8, .int .i64 (k : Int)), (9, s64.v), (11, .int .i64 (i : Int))])
      (fun (i : (Nat)) (H : Heap) => (i ≤ k) ∧ Nw H64 H)
      (fun (i : (Nat)) => k - i) 0 ⟨rfl, rfl, rfl, rfl, trivial⟩ ?_ ?_
    ·
      exact ⟨(by omega), Mo.refl _ _⟩
    intro i HL2 hI2 K26 hN26 hE26
    obtain ⟨hi2, hlm2⟩ := hI2
    replace mx := mx.nw hlm2
    replace hf := hf.nw hlm2
    replace ow64 := ow64.nw hlm2
    replace hm0 := hm0.tr hlm2
    have hz14 := hlm2.size
    refine CW.seq (fun K27 hK27 hE27 => ?_)
    refine CW.seq (fun K28 hK28 hE28 => ?_)
    refine CW.region ?_
    refine LR.v (Y.move rfl rfl) (Wd.u rfl) rfl rfl ?_
    refine LR.v (Y.move rfl rfl) (Wd.u rfl) rfl rfl ?_
    refine LR.v (Y.lss rfl rfl rfl) (Wd.u rfl) rfl rfl ?_
    refine LR.nil ?_
    refine hK28 _ _ ?_
    refine CW.condp rfl (fun c77 => ?_) (fun c77 => ?_)
    ·
      have hik : i < k := by omega
      obtain ⟨r1, r2⟩ := q4 i hik
      have hLl : i < (((ordD n).crash [pick]).listL [100]).length := by rw [q3]; simp; omega
      have hLi : (((ordD n).crash [pick]).listL [100])[i] = ordP i := by simp only [q3, List.getElem_map, List.getElem_range]
      refine CW.skip ?_
      refine hK27 _ _ ?_
      refine CW.seq (fun K29 hK29 hE29 => ?_)
      refine CW.block (fun K30 hK30 hX30 hE30 => ?_)
      refine CW.seq (fun K31 hK31 hE31 => ?_)
      refine CW.region ?_
      refine LR.v (Y.move rfl rfl) (Wd.u rfl) rfl rfl ?_
      refine LR.v (Y.move rfl rfl) (Wd.u rfl) rfl rfl ?_
      refine LR.v (Y.move rfl rfl) (Wd.u rfl) rfl rfl ?_
      refine LR.v (Y.owAddr ow64 (i) rfl Tryd.runUnderlying42 Tryd.sizeOf9 rfl rfl (by first | rfl | omega) (hLl)) (Wd.u rfl) rfl rfl ?_
      refine LR.v (Y.cast (v2 := Str (ordP i)) (Y.load1 (ow64.pt (j := i) (hLl)) rfl Tryd.isAgg9 rfl) (by rw [hLi])) (Wd.u rfl) rfl rfl ?_
      -- call (*selvage/simfs.FS).Read
      refine LR.call rfl Tryd.call18 rfl (Wd.u rfl) rfl rfl (read_ct mx_ K60 g60 b17 ((ordD n).crash [pick]) (ordP i) w0 _ mx (bf_mx.mono (by omega)) hf (by show 3 ≤ _; decide) (fun j => by have := (hSe.f j).1; omega)) (fun v86 H86 r86 => ?_)
      obtain ⟨s86, k86, rfl, ow86, hk86, hs86⟩ := r86
      have df44 := DF.app (DF.z) (bf_mx.mono hm0.size) hk86
      have dj45 : DL k86 K60 := DL.app2 (DL.zK) hf.bk hk86
      have dj46 : Dj k64 k86 := Dj.app (Dj.z) ow64.le hk86
      have nx47 : Nx 0 H0.size k86 := Nx.tr (Nx.refl 0 _) hk86 hm0.size
      have nx48 : Nx 0 H64.size k86 := Nx.tr (Nx.refl 0 _) hk86 hlm2.size
      replace mx := mx.nw hs86
      replace hf := hf.nw hs86
      replace ow64 := ow64.nw hs86
      replace hm0 := hm0.tr hs86
      replace hlm2 := hlm2.tr hs86
      have hz15 := hs86.size
      have hle_ow86 := ow86.le
      rw [r2] at ow86
      refine LR.v (Y.move rfl rfl) (Wd.u rfl) rfl rfl ?_
      refine LR.v (Y.extract rfl rfl rfl) (Wd.u rfl) rfl rfl ?_
      refine LR.v (Y.extract rfl rfl rfl) (Wd.u rfl) rfl rfl ?_
      refine LR.v (Y.assign rfl rfl) (Wd.u rfl) rfl rfl ?_
      refine LR.v (Y.assign rfl rfl) (Wd.u rfl) rfl rfl ?_
      refine LR.nil ?_
      refine hK31 _ _ ?_
      refine CW.seq (fun K32 hK32 hE32 => ?_)
      refine CW.region_any (fun Hq => Nw H86 Hq) [] rfl ?_
      have hqs := Nw.refl H86
      refine LH.take 0 (by kernel_rfl) rfl (by kernel_rfl) (by kernel_rfl) (by kernel_rfl) (fun Hq hq => Y.move rfl rfl) (Wd.u rfl) rfl rfl hqs ?_
      refine LH.take 1 (by kernel_rfl) rfl (by kernel_rfl) (by kernel_rfl) (by kernel_rfl) (fun Hq hq => Y.move rfl rfl) (Wd.u rfl) rfl rfl hqs ?_
      refine LH.take 2 (by kernel_rfl) rfl (by kernel_rfl) (by kernel_rfl) (by kernel_rfl) (fun Hq hq => Y.owAddr (ow64.nw hq) (i) rfl Tryd.runUnderlying42 Tryd.sizeOf9 rfl rfl (by first | rfl | omega) (hLl)) (Wd.u rfl) rfl rfl hqs ?_
      refine LH.take 3 (by kernel_rfl) rfl (by kernel_rfl) (by kernel_rfl) (by kernel_rfl) (fun Hq hq => Y.cast (v2 := Str (ordP i)) (Y.load1 ((ow64.pt (j := i) (hLl)).nw hq) rfl Tryd.isAgg9 rfl) (by rw [hLi])) (Wd.u rfl) rfl rfl hqs ?_
      refine LH.take 4 (by kernel_rfl) rfl (by kernel_rfl) (by kernel_rfl) (by kernel_rfl) (fun Hq hq => Y.move rfl rfl) (Wd.u rfl) rfl rfl hqs ?_
      refine LH.take 5 (by kernel_rfl) rfl (by kernel_rfl) (by kernel_rfl) (by kernel_rfl) (fun Hq hq => Y.cast (v2 := .int .i64 ((97 + i : Nat) : Int)) (Y.addi rfl rfl rfl (by omega)) (ivv (by omega))) (Wd.u rfl) rfl rfl hqs ?_
      refine LH.take 6 (by kernel_rfl) rfl (by kernel_rfl) (by kernel_rfl) (by kernel_rfl) (fun Hq hq => Y.cast (v2 := .int .u8 (UInt8.ofNat (97 + i)).toNat) (Y.conv_u8 rfl Tryd.runUnderlying3 Tryd.runUnderlying5 rfl) (by first | rfl | (congr 1))) (Wd.u rfl) rfl rfl hqs ?_
      refine LH.one (i := 7) (by kernel_rfl) ?_
      refine LO.z rfl (Z.litw _ ([UInt8.ofNat (97 + i)]) rfl inf25 rfl rfl rfl (by decide) (by decide) fB_len fB_one (rfl)) (Wd.u rfl) rfl rfl (fun v96 H96 r96 => ?_)
      obtain ⟨ow96, hs96, ob96, hH96⟩ := r96
      have hzs96 : H96.size = H86.size + 1 := by rw [hH96]; simp
      have df49 := (DF.new (bf_mx.mono hm0.size) : DF _ (H86.size + 1))
      have dj50 : DL (H86.size + 1) K60 := DL.newK hf.bk
      have dj51 : Dj k64 (H86.size + 1) := Dj.new ow64.le
      have dj52 : Dj k86 (H86.size + 1) := Dj.new ow86.le
      have nx53 : Nx 0 H0.size (H86.size + 1) := Nx.new hm0.size
      have nx54 : Nx 0 H64.size (H86.size + 1) := Nx.new hlm2.size
      replace mx := mx.nw hs96
      replace hf := hf.nw hs96
      replace ow64 := ow64.nw hs96
      replace ow86 := ow86.nw hs96
      replace hm0 := hm0.tr hs96
      replace hlm2 := hlm2.tr hs96
      have hz16 := hs96.size
      have hq96 := hqs.tr hs96
      refine ⟨.inr hq96, LH.narrow (SH2 := fun Hq => Nw H96 Hq) (fun Hq hq => hq96.tr hq) ?_⟩
      have hqn96 := Nw.refl H96
      refine LH.take 8 (by kernel_rfl) rfl (by kernel_rfl) (by kernel_rfl) (by kernel_rfl) (fun Hq hq => Y.bstr (ow96.rd.nw hq) rfl Tryd.underlying25 Tryd.underlying9 Tryd.underlying5 rfl) (Wd.u rfl) rfl rfl hqn96 ?_
      refine LH.take 9 (by kernel_rfl) rfl (by kernel_rfl) (by kernel_rfl) (by kernel_rfl) (fun Hq hq => Y.cast (v2 := Str (ordP i)) (Y.sadd rfl rfl rfl (by simp)) (rfl)) (Wd.u rfl) rfl rfl hqn96 ?_
      refine LH.take 10 (by kernel_rfl) rfl (by kernel_rfl) (by kernel_rfl) (by kernel_rfl) (fun Hq hq => (Y.sneq rfl rfl rfl).isF ((fun h => h rfl))) (Wd.u rfl) rfl rfl hqn96 ?_
      refine LH.take 11 (by kernel_rfl) rfl (by kernel_rfl) (by kernel_rfl) (by kernel_rfl) (fun Hq hq => Y.move rfl rfl) (Wd.u rfl) rfl rfl hqn96 ?_
      refine LH.take 12 (by kernel_rfl) rfl (by kernel_rfl) (by kernel_rfl) (by kernel_rfl) (fun Hq hq => Y.move rfl rfl) (Wd.g rfl rfl rfl) rfl rfl hqn96 ?_
      refine LH.take 13 (by kernel_rfl) rfl (by kernel_rfl) (by kernel_rfl) (by kernel_rfl) (fun Hq hq => (Y.neq rfl rfl rfl).isF ((fun h => h (by rw [r1]; rfl)))) (Wd.g rfl rfl rfl) rfl rfl hqn96 ?_
      refine LH.take 14 (by kernel_rfl) rfl (by kernel_rfl) (by kernel_rfl) (by kernel_rfl) (fun Hq hq => Y.pick_f rfl rfl rfl) (Wd.u rfl) rfl rfl hqn96 ?_
      refine LH.take 15 (by kernel_rfl) rfl (by kernel_rfl) (by kernel_rfl) (by kernel_rfl) (fun Hq hq => Y.move rfl rfl) (Wd.u rfl) rfl rfl hqn96 ?_
      refine LH.take 16 (by kernel_rfl) rfl (by kernel_rfl) (by kernel_rfl) (by kernel_rfl) (fun Hq hq => Y.move rfl rfl) (Wd.g rfl rfl rfl) rfl rfl hqn96 ?_
      refine LH.take 17 (by kernel_rfl) rfl (by kernel_rfl) (by kernel_rfl) (by kernel_rfl) (fun Hq hq => Y.len (ow86.rd.nw hq) rfl Tryd.runUnderlying25 rfl) (Wd.g rfl rfl rfl) rfl rfl hqn96 ?_
      refine LH.take 18 (by kernel_rfl) rfl (by kernel_rfl) (by kernel_rfl) (by kernel_rfl) (fun Hq hq => (Y.neq rfl rfl rfl).isF ((fun h => h rfl))) (Wd.g rfl rfl rfl) rfl rfl hqn96 ?_
      refine LH.take 19 (by kernel_rfl) rfl (by kernel_rfl) (by kernel_rfl) (by kernel_rfl) (fun Hq hq => Y.pick_f rfl rfl rfl) (Wd.u rfl) rfl rfl hqn96 ?_
      refine LH.take 20 (by kernel_rfl) rfl (by kernel_rfl) (by kernel_rfl) (by kernel_rfl) (fun Hq hq => Y.move rfl rfl) (Wd.u rfl) rfl rfl hqn96 ?_
      refine LH.take 21 (by kernel_rfl) rfl (by kernel_rfl) (by kernel_rfl) (by kernel_rfl) (fun Hq hq => Y.move rfl rfl) (Wd.g rfl rfl rfl) rfl rfl hqn96 ?_
      refine LH.take 22 (by kernel_rfl) rfl (by kernel_rfl) (by kernel_rfl) (by kernel_rfl) (fun Hq hq => Y.owAddr (ow86.nw hq) (0) rfl Tryd.runUnderlying25 Tryd.sizeOf5 rfl rfl (by first | rfl | omega) (by simp)) (Wd.g rfl rfl rfl) rfl rfl hqn96 ?_
      refine LH.take 23 (by kernel_rfl) rfl (by kernel_rfl) (by kernel_rfl) (by kernel_rfl) (fun Hq hq => Y.load1 ((ow86.pt (j := 0) (by simp)).nw hq) rfl Tryd.isAgg5 rfl) (Wd.g rfl rfl rfl) rfl rfl hqn96 ?_
      refine LH.take 24 (by kernel_rfl) rfl (by kernel_rfl) (by kernel_rfl) (by kernel_rfl) (fun Hq hq => Y.move rfl rfl) (Wd.g rfl rfl rfl) rfl rfl hqn96 ?_
      refine LH.take 25 (by kernel_rfl) rfl (by kernel_rfl) (by kernel_rfl) (by kernel_rfl) (fun Hq hq => Y.cast (v2 := .int .u8 (UInt8.ofNat i).toNat) (Y.conv_u8 rfl Tryd.runUnderlying3 Tryd.runUnderlying5 rfl) (by first | rfl | (congr 1))) (Wd.g rfl rfl rfl) rfl rfl hqn96 ?_
      refine LH.take 26 (by kernel_rfl) rfl (by kernel_rfl) (by kernel_rfl) (by kernel_rfl) (fun Hq hq => (Y.neq rfl rfl rfl).isF ((fun h => h rfl))) (Wd.g rfl rfl rfl) rfl rfl hqn96 ?_
      refine LH.take 27 (by kernel_rfl) rfl (by kernel_rfl) (by kernel_rfl) (by kernel_rfl) (fun Hq hq => Y.pick_f rfl rfl rfl) (Wd.u rfl) rfl rfl hqn96 ?_
      refine LH.done (by kernel_rfl) ?_
      have hqe := hqn96
      refine hK32 _ _ ?_
      refine CW.cond_f rfl ?_
      refine CW.skip ?_
      refine hK30 _ _ ?_
      refine hK29 _ _ ?_
      refine CW.region ?_
      refine LR.v (Y.move rfl rfl) (Wd.u rfl) rfl rfl ?_
      refine LR.v (Y.addi rfl rfl rfl (by omega)) (Wd.u rfl) rfl rfl ?_
      refine LR.v (Y.assign rfl rfl) (Wd.u rfl) rfl rfl ?_
      refine LR.nil ?_
      refine QN.sub (hN26 (i + 1) _ ?_ ?_) ⟨rfl, (iv (by omega)), rfl, (iv (by omega)), trivial⟩
      · exact ⟨(by omega), hlm2⟩
      · first | omega | (simp only; omega) | (simp; omega)
    ·
      refine CW.exit (hE27 (.exit 2) nofun _ _ (hE26 (.exit 2) nofun _ _ (hX25 _ _ ?_)))
      refine hK23 _ _ ?_
      refine CW.seq (fun K33 hK33 hE33 => ?_)
      refine CW.region ?_
      refine LR.v (Y.assign rfl rfl) (Wd.u rfl) rfl rfl ?_
      refine LR.nil ?_
      refine hK33 _ _ ?_
      refine CW.ret (hret .ret (.inr rfl) _ _ _ (res1 rfl rfl) ?_)
      exact ⟨rfl, hm0⟩

end Go.Proofs.YtfbfjhppppoilaaDoor.SimYD
