/-
  The disk: a file is published (the statement SimfsPublish's function).
-/
import Derived.Test.YtfbfjhppppoilaaDoorSimU
namespace Go.Proofs.YtfbfjhppppoilaaDoor.SimV
open Go.Proofs.YtfbfjhppppoilaaDoor.E Go.RowKit Go.Proofs.YtfbfjhppppoilaaDoor.SimA Go.Proofs.YtfbfjhppppoilaaDoor.SimB Go.Proofs.YtfbfjhppppoilaaDoor.SimC Go.Proofs.YtfbfjhppppoilaaDoor.SimD Go.Proofs.YtfbfjhppppoilaaDoor.SimE Go.Proofs.YtfbfjhppppoilaaDoor.SimF Go.Proofs.YtfbfjhppppoilaaDoor.SimG Go.Proofs.YtfbfjhppppoilaaDoor.SimH Go.Proofs.YtfbfjhppppoilaaDoor.SimI Go.Proofs.YtfbfjhppppoilaaDoor.SimJ Go.Proofs.YtfbfjhppppoilaaDoor.SimK Go.Proofs.YtfbfjhppppoilaaDoor.SimL Go.Proofs.YtfbfjhppppoilaaDoor.SimM Go.Proofs.YtfbfjhppppoilaaDoor.SimN Go.Proofs.YtfbfjhppppoilaaDoor.SimP Go.Proofs.YtfbfjhppppoilaaDoor.SimQ Go.Proofs.YtfbfjhppppoilaaDoor.SimR Go.Proofs.YtfbfjhppppoilaaDoor.SimS Go.Proofs.YtfbfjhppppoilaaDoor.SimU
set_option maxRecDepth 20000
set_option linter.unusedVariables false
set_option linter.unusedSimpArgs false
set_option linter.unusedSectionVars false
set_option maxHeartbeats 8000000 in
theorem publish_ct (mx_ : Int) (s0 s1 s3 : SV) (old new : List UInt8) (stop : Int) (picks : List Int) (w0 : World) (H0 : Heap)
    (mx : MX mx_ H0) (bf_mx : BF (fun b => b = 0) H0.size) (ho : RdT H0 fB 1 s0.v old) (hw : RdT H0 fB 1 s1.v new) (hp : RdT H0 fI 1 s3.v picks) (hst : -9223372036854775808 ≤ stop ∧ stop ≤ 9223372036854775807) (hpw : ∀ x ∈ picks, -9223372036854775808 ≤ x ∧ x ≤ 9223372036854775807) :
    Ct Tryd.prog w0 8 #[s0.v, s1.v, .int .i64 stop, s3.v] H0 (fun r H2 => r = .bool true ∧ Nw H0 H2) := by
  refine Ct.enter (args := [s0.v, s1.v, .int .i64 stop, s3.v]) Tryd.func8 rfl rfl rfl ?_
  intro Q0 hret
  have hm0 : Nw H0 H0 := Mo.refl _ _
  replace ho := ho.bnd
  have bf_ho := ho.bf
  replace hw := hw.bnd
  have bf_hw := hw.bf
  replace hp := hp.bnd
  have bf_hp := hp.bf
  refine CW.seq (fun K1 hK1 hE1 => ?_)
  refine CW.region ?_
  refine LR.v (Y.assign rfl rfl) (Wd.u rfl) rfl rfl ?_
  refine LR.nil ?_
  refine hK1 _ _ ?_
  refine CW.seq (fun K2 hK2 hE2 => ?_)
  refine CW.seq (fun K3 hK3 hE3 => ?_)
  refine CW.region ?_
  -- call selvage/selvagelaw2.known
  refine LR.call rfl Tryd.call11 rfl (Wd.u rfl) rfl rfl (known_ct mx_ w0 _ mx bf_mx) (fun v17 H17 r17 => ?_)
  obtain ⟨rfl, hs17⟩ := r17
  replace mx := mx.nw hs17
  replace ho := ho.nw hs17
  replace hw := hw.nw hs17
  replace hp := hp.nw hs17
  replace hm0 := hm0.tr hs17
  have hz1 := hs17.size
  refine LR.v (Y.not rfl rfl) (Wd.u rfl) rfl rfl ?_
  refine LR.nil ?_
  refine hK3 _ _ ?_
  refine CW.cond_f rfl ?_
  refine CW.skip ?_
  refine hK2 _ _ ?_
  refine CW.seq (fun K4 hK4 hE4 => ?_)
  refine CW.region ?_
  -- call selvage/simfs.New
  refine LR.call rfl Tryd.call16 rfl (Wd.u rfl) rfl rfl (new_ct 1048576 65536 w0 _ (by decide) (by decide)) (fun v20 H20 r20 => ?_)
  obtain ⟨K20, g20, b20, rfl, hf, hkn20, hs20⟩ := r20
  have df1 := DFL.appK (DFL.nil) (bf_mx.mono hm0.size) hkn20
  have df2 := DFL.appK (DFL.nil) (bf_ho.mono hm0.size) hkn20
  have df3 := DFL.appK (DFL.nil) (bf_hw.mono hm0.size) hkn20
  have df4 := DFL.appK (DFL.nil) (bf_hp.mono hm0.size) hkn20
  have nx5 : NxK [] H0.size K20 := NxK.tr (NxK.refl [] _) hkn20 hm0.size
  replace mx := mx.nw hs20
  replace ho := ho.nw hs20
  replace hw := hw.nw hs20
  replace hp := hp.nw hs20
  replace hm0 := hm0.tr hs20
  have hz2 := hs20.size
  have hbk_hf := hf.bk
  have hS20 := Bs.empty 1048576 65536
  refine LR.v (Y.move rfl rfl) (Wd.u rfl) rfl rfl ?_
  refine LR.v (Y.extract rfl rfl rfl) (Wd.u rfl) rfl rfl ?_
  refine LR.v (Y.extract rfl rfl rfl) (Wd.u rfl) rfl rfl ?_
  refine LR.v (Y.assign rfl rfl) (Wd.u rfl) rfl rfl ?_
  refine LR.v (Y.assign rfl rfl) (Wd.u rfl) rfl rfl ?_
  refine LR.nil ?_
  refine hK4 _ _ ?_
  refine CW.seq (fun K5 hK5 hE5 => ?_)
  refine CW.seq (fun K6 hK6 hE6 => ?_)
  refine CW.region ?_
  refine LR.v (Y.move rfl rfl) (Wd.u rfl) rfl rfl ?_
  refine LR.v ((Y.neq rfl rfl rfl).isF ((fun h => h rfl))) (Wd.u rfl) rfl rfl ?_
  refine LR.v (Y.move rfl rfl) (Wd.u rfl) rfl rfl ?_
  refine LR.v (Y.move rfl rfl) (Wd.g rfl rfl rfl) rfl rfl ?_
  refine LR.v (Y.peq rfl (by kernel_rfl) (by kernel_rfl) rfl rfl) (Wd.g rfl rfl rfl) rfl rfl ?_
  refine LR.v (Y.pick_f rfl rfl rfl) (Wd.u rfl) rfl rfl ?_
  refine LR.v (Y.move rfl rfl) (Wd.u rfl) rfl rfl ?_
  refine LR.v (Y.move rfl rfl) (Wd.g rfl rfl rfl) rfl rfl ?_
  refine LR.v (Y.len ho rfl Tryd.runUnderlying25 rfl) (Wd.g rfl rfl rfl) rfl rfl ?_
  refine LR.v (Y.gtr rfl rfl rfl) (Wd.g rfl rfl rfl) rfl rfl ?_
  refine LR.v (Y.pick_f rfl rfl rfl) (Wd.u rfl) rfl rfl ?_
  refine LR.v (Y.move rfl rfl) (Wd.u rfl) rfl rfl ?_
  refine LR.splitp (d := 34) rfl (fun g34 => ?_) (fun g34 => ?_)
  ·
    refine LR.gs rfl rfl rfl rfl rfl rfl ?_
    refine LR.gs rfl rfl rfl rfl rfl rfl ?_
    refine LR.gs rfl rfl rfl rfl rfl rfl ?_
    refine LR.v (Y.pick_t rfl rfl rfl) (Wd.u rfl) rfl rfl ?_
    refine LR.nil ?_
    refine hK6 _ _ ?_
    refine CW.cond_t rfl ?_
    refine CW.seq (fun K7 hK7 hE7 => ?_)
    refine CW.region ?_
    refine LR.v (Y.move rfl rfl) (Wd.u rfl) rfl rfl ?_
    refine LR.v (Y.pne rfl (by kernel_rfl) (by kernel_rfl) rfl rfl) (Wd.u rfl) rfl rfl ?_
    refine LR.v (Y.assign rfl rfl) (Wd.u rfl) rfl rfl ?_
    refine LR.nil ?_
    refine hK7 _ _ ?_
    refine CW.ret (hE5 .ret nofun _ _ (hret .ret (.inr rfl) _ _ _ (res1 rfl rfl) ?_))
    exact ⟨rfl, hm0⟩
  ·
    refine LR.v (Y.move rfl rfl) (Wd.g rfl rfl rfl) rfl rfl ?_
    refine LR.v (Y.len hw rfl Tryd.runUnderlying25 rfl) (Wd.g rfl rfl rfl) rfl rfl ?_
    refine LR.v (Y.gtr rfl rfl rfl) (Wd.g rfl rfl rfl) rfl rfl ?_
    refine LR.v (Y.pick_f rfl rfl rfl) (Wd.u rfl) rfl rfl ?_
    refine LR.nil ?_
    refine hK6 _ _ ?_
    refine CW.condp rfl (fun c38 => ?_) (fun c38 => ?_)
    ·
      refine CW.seq (fun K8 hK8 hE8 => ?_)
      refine CW.region ?_
      refine LR.v (Y.move rfl rfl) (Wd.u rfl) rfl rfl ?_
      refine LR.v (Y.pne rfl (by kernel_rfl) (by kernel_rfl) rfl rfl) (Wd.u rfl) rfl rfl ?_
      refine LR.v (Y.assign rfl rfl) (Wd.u rfl) rfl rfl ?_
      refine LR.nil ?_
      refine hK8 _ _ ?_
      refine CW.ret (hE5 .ret nofun _ _ (hret .ret (.inr rfl) _ _ _ (res1 rfl rfl) ?_))
      exact ⟨rfl, hm0⟩
    ·
      refine CW.skip ?_
      refine hK5 _ _ ?_
      refine CW.seq (fun K9 hK9 hE9 => ?_)
      refine CW.region ?_
      refine LR.v (Y.move rfl rfl) (Wd.u rfl) rfl rfl ?_
      refine LR.v (Y.move rfl rfl) (Wd.u rfl) rfl rfl ?_
      -- call (*selvage/simfs.FS).Write
      refine LR.call rfl Tryd.call17 rfl (Wd.u rfl) rfl rfl (write_ct mx_ K20 g20 b20 (Dk.empty 1048576 65536) pX s0 old _ w0 _ hf mx (bf_mx.mono (by omega)) (df1) ho (bf_ho.mono (by omega)) (df2) (by decide) (hS20.bd (by omega)) (by omega)) (fun v43 H43 r43 => ?_)
      have ql6 := hf.bk
      obtain ⟨K43, g43, rfl, hf, hkd43, hs43⟩ := r43
      have df7 := DFL.appK (df1) (bf_mx.mono hm0.size) hkd43
      have df8 := DFL.appK (df2) (bf_ho.mono hm0.size) hkd43
      have df9 := DFL.appK (df3) (bf_hw.mono hm0.size) hkd43
      have df10 := DFL.appK (df4) (bf_hp.mono hm0.size) hkd43
      have nx11 : NxK [] H0.size K43 := NxK.tr (nx5) hkd43 hm0.size
      replace mx := mx.upL hs43 (df1)
      replace ho := ho.upL hs43 (df2)
      replace hw := hw.upL hs43 (df3)
      replace hp := hp.upL hs43 (df4)
      replace hm0 := (Mo.trL (ks := []) (hm0.mdn []) hs43 (MIL.ofK0 (nx5))).nil
      have hz3 := hs43.size
      have hbk_hf := hf.bk
      have hS43 := hS20.lay pX ⟨false, old⟩
      simp only [List.length_cons, List.length_nil, Nat.zero_add, Nat.reduceAdd] at hS43
      refine LR.nil ?_
      refine hK9 _ _ ?_
      refine CW.seq (fun K10 hK10 hE10 => ?_)
      refine CW.region ?_
      refine LR.v (Y.move rfl rfl) (Wd.u rfl) rfl rfl ?_
      -- call (*selvage/simfs.FS).Sync
      refine LR.call rfl Tryd.call23 rfl (Wd.u rfl) rfl rfl (sync_ct mx_ K43 g43 b20 ((Dk.empty 1048576 65536).lay pX ⟨false, old⟩).2 pX w0 _ hf mx (bf_mx.mono (by omega)) (df7) (by decide) (hS43.bd (by omega))) (fun v45 H45 r45 => ?_)
      have ql12 := hf.bk
      obtain ⟨K45, g45, rfl, hf, hkd45, hs45⟩ := r45
      have df13 := DFL.appK (df7) (bf_mx.mono hm0.size) hkd45
      have df14 := DFL.appK (df8) (bf_ho.mono hm0.size) hkd45
      have df15 := DFL.appK (df9) (bf_hw.mono hm0.size) hkd45
      have df16 := DFL.appK (df10) (bf_hp.mono hm0.size) hkd45
      have nx17 : NxK [] H0.size K45 := NxK.tr (nx11) hkd45 hm0.size
      replace mx := mx.upL hs45 (df7)
      replace ho := ho.upL hs45 (df8)
      replace hw := hw.upL hs45 (df9)
      replace hp := hp.upL hs45 (df10)
      replace hm0 := (Mo.trL (ks := []) (hm0.mdn []) hs45 (MIL.ofK0 (nx11))).nil
      have hz4 := hs45.size
      have hbk_hf := hf.bk
      have hS45 := hS43.sync pX
      refine LR.nil ?_
      refine hK10 _ _ ?_
      refine CW.seq (fun K11 hK11 hE11 => ?_)
      refine CW.region ?_
      refine LR.v (Y.move rfl rfl) (Wd.u rfl) rfl rfl ?_
      -- call (*selvage/simfs.FS).SyncDir
      refine LR.call rfl Tryd.call24 rfl (Wd.u rfl) rfl rfl (syncDir_ct mx_ K45 g45 b20 (((Dk.empty 1048576 65536).lay pX ⟨false, old⟩).2.sync pX).2 [100] w0 _ hf mx (bf_mx.mono (by omega)) (df13) (by decide) (hS45.bd (by omega))) (fun v47 H47 r47 => ?_)
      have ql18 := hf.bk
      obtain ⟨K47, g47, rfl, hf, hkd47, hs47⟩ := r47
      have df19 := DFL.appK (df13) (bf_mx.mono hm0.size) hkd47
      have df20 := DFL.appK (df14) (bf_ho.mono hm0.size) hkd47
      have df21 := DFL.appK (df15) (bf_hw.mono hm0.size) hkd47
      have df22 := DFL.appK (df16) (bf_hp.mono hm0.size) hkd47
      have nx23 : NxK [] H0.size K47 := NxK.tr (nx17) hkd47 hm0.size
      replace mx := mx.upL hs47 (df13)
      replace ho := ho.upL hs47 (df14)
      replace hw := hw.upL hs47 (df15)
      replace hp := hp.upL hs47 (df16)
      replace hm0 := (Mo.trL (ks := []) (hm0.mdn []) hs47 (MIL.ofK0 (nx17))).nil
      have hz5 := hs47.size
      have hbk_hf := hf.bk
      have hS47 := hS45.syncDir [100]
      have e47 : ((((Dk.empty 1048576 65536).lay pX ⟨false, old⟩).2.sync pX).2.syncDir [100]).2 = (startD pX [100] old) := rfl
      rw [e47] at hf hS47
      replace hS47 : Bs (old.length + 10) _ := hS47.mono (by omega)
      refine LR.nil ?_
      refine hK11 _ _ ?_
      refine CW.seq (fun K12 hK12 hE12 => ?_)
      refine CW.region ?_
      refine LR.v (Y.move rfl rfl) (Wd.u rfl) rfl rfl ?_
      -- call selvage/selvagelaw2.within
      refine LR.call rfl Tryd.call20 rfl (Wd.u rfl) rfl rfl (within_ct stop 5 w0 _ (by omega) hst) (fun v49 H49 r49 => ?_)
      obtain ⟨rfl, hs49⟩ := r49
      replace mx := mx.nw hs49
      replace ho := ho.nw hs49
      replace hw := hw.nw hs49
      replace hp := hp.nw hs49
      replace hf := hf.nw hs49
      replace hm0 := hm0.tr hs49
      have hz6 := hs49.size
      obtain ⟨n, hn⟩ : ∃ n, n = 1 + wiN stop 5 := ⟨_, rfl⟩
      have hnl := wiN_lt (a := stop) (show 0 < 5 by omega)
      refine LR.v (Y.cast (v2 := .int .i64 (n : Int)) (Y.addi rfl rfl rfl (by omega)) (ivv (by omega))) (Wd.u rfl) rfl rfl ?_
      refine LR.v (Y.assign rfl rfl) (Wd.u rfl) rfl rfl ?_
      refine LR.nil ?_
      refine hK12 _ _ ?_
      refine CW.seq (fun K13 hK13 hE13 => ?_)
      refine CW.region ?_
      refine LR.v (Y.move rfl rfl) (Wd.u rfl) rfl rfl ?_
      refine LR.v (Y.move rfl rfl) (Wd.u rfl) rfl rfl ?_
      -- call (*selvage/simfs.FS).Stop
      refine LR.call rfl Tryd.call27 rfl (Wd.u rfl) rfl rfl (stop_ct K47 g47 b20 (startD pX [100] old) (n : Int) w0 _ hf (by omega)) (fun v53 H53 r53 => ?_)
      obtain ⟨g53, rfl, hf, hg53, hs53⟩ := r53
      replace mx := mx.upL hs53 (df19)
      replace ho := ho.upL hs53 (df20)
      replace hw := hw.upL hs53 (df21)
      replace hp := hp.upL hs53 (df22)
      replace hm0 := (Mo.trL (ks := []) (hm0.mdn []) hs53 (MIL.ofK0 (nx23))).nil
      have hz7 := hs53.size
      simp only [Int.toNat_natCast] at hf
      have hS53 := hS47.stop n
      have e53 : (startD pX [100] old).stop n = (pub5 old n) := rfl
      rw [e53] at hf hS53
      refine LR.nil ?_
      refine hK13 _ _ ?_
      refine CW.seq (fun K14 hK14 hE14 => ?_)
      refine CW.region ?_
      refine LR.v (Y.move rfl rfl) (Wd.u rfl) rfl rfl ?_
      refine LR.v (Y.move rfl rfl) (Wd.u rfl) rfl rfl ?_
      -- call (*selvage/simfs.FS).Write
      refine LR.call rfl Tryd.call17 rfl (Wd.u rfl) rfl rfl (write_ct mx_ K47 g53 b20 (pub5 old n) pN s1 new _ w0 _ hf mx (bf_mx.mono (by omega)) (df19) hw (bf_hw.mono (by omega)) (df21) (by decide) (hS53.bd (by omega)) (by omega)) (fun v56 H56 r56 => ?_)
      have ql24 := hf.bk
      obtain ⟨K56, g56, rfl, hf, hkd56, hs56⟩ := r56
      have df25 := DFL.appK (df19) (bf_mx.mono hm0.size) hkd56
      have df26 := DFL.appK (df20) (bf_ho.mono hm0.size) hkd56
      have df27 := DFL.appK (df21) (bf_hw.mono hm0.size) hkd56
      have df28 := DFL.appK (df22) (bf_hp.mono hm0.size) hkd56
      have nx29 : NxK [] H0.size K56 := NxK.tr (nx23) hkd56 hm0.size
      replace mx := mx.upL hs56 (df19)
      replace ho := ho.upL hs56 (df20)
      replace hw := hw.upL hs56 (df21)
      replace hp := hp.upL hs56 (df22)
      replace hm0 := (Mo.trL (ks := []) (hm0.mdn []) hs56 (MIL.ofK0 (nx23))).nil
      have hz8 := hs56.size
      have hbk_hf := hf.bk
      have hS56 := hS53.lay pN ⟨false, new⟩
      simp only [List.length_cons, List.length_nil, Nat.zero_add, Nat.reduceAdd] at hS56
      have e56 : ((pub5 old n).lay pN ⟨false, new⟩).2 = (pub6 old new n) := rfl
      rw [e56] at hf hS56
      replace hS56 : Bs (old.length + new.length + 20) _ := hS56.mono (by omega)
      refine LR.nil ?_
      refine hK14 _ _ ?_
      refine CW.seq (fun K15 hK15 hE15 => ?_)
      refine CW.region ?_
      refine LR.v (Y.move rfl rfl) (Wd.u rfl) rfl rfl ?_
      -- call (*selvage/simfs.FS).Sync
      refine LR.call rfl Tryd.call23 rfl (Wd.u rfl) rfl rfl (sync_ct mx_ K56 g56 b20 (pub6 old new n) pN w0 _ hf mx (bf_mx.mono (by omega)) (df25) (by decide) (hS56.bd (by omega))) (fun v58 H58 r58 => ?_)
      have ql30 := hf.bk
      obtain ⟨K58, g58, rfl, hf, hkd58, hs58⟩ := r58
      have df31 := DFL.appK (df25) (bf_mx.mono hm0.size) hkd58
      have df32 := DFL.appK (df26) (bf_ho.mono hm0.size) hkd58
      have df33 := DFL.appK (df27) (bf_hw.mono hm0.size) hkd58
      have df34 := DFL.appK (df28) (bf_hp.mono hm0.size) hkd58
      have nx35 : NxK [] H0.size K58 := NxK.tr (nx29) hkd58 hm0.size
      replace mx := mx.upL hs58 (df25)
      replace ho := ho.upL hs58 (df26)
      replace hw := hw.upL hs58 (df27)
      replace hp := hp.upL hs58 (df28)
      replace hm0 := (Mo.trL (ks := []) (hm0.mdn []) hs58 (MIL.ofK0 (nx29))).nil
      have hz9 := hs58.size
      have hbk_hf := hf.bk
      have hS58 := hS56.sync pN
      have e58 : ((pub6 old new n).sync pN).2 = (pub7 old new n) := rfl
      rw [e58] at hf hS58
      replace hS58 : Bs (old.length + new.length + 22) _ := hS58.mono (by omega)
      refine LR.nil ?_
      refine hK15 _ _ ?_
      refine CW.seq (fun K16 hK16 hE16 => ?_)
      refine CW.region ?_
      refine LR.v (Y.move rfl rfl) (Wd.u rfl) rfl rfl ?_
      -- call (*selvage/simfs.FS).Rename
      refine LR.call rfl Tryd.call28 rfl (Wd.u rfl) rfl rfl (rename_ct mx_ K58 g58 b20 (pub7 old new n) pN pX w0 _ hf mx (bf_mx.mono (by omega)) (df31) (by decide) (by decide) (hS58.bd (by omega))) (fun v60 H60 r60 => ?_)
      have ql36 := hf.bk
      obtain ⟨K60, g60, rfl, hf, hkd60, hs60⟩ := r60
      have df37 := DFL.appK (df31) (bf_mx.mono hm0.size) hkd60
      have df38 := DFL.appK (df32) (bf_ho.mono hm0.size) hkd60
      have df39 := DFL.appK (df33) (bf_hw.mono hm0.size) hkd60
      have df40 := DFL.appK (df34) (bf_hp.mono hm0.size) hkd60
      have nx41 : NxK [] H0.size K60 := NxK.tr (nx35) hkd60 hm0.size
      replace mx := mx.upL hs60 (df31)
      replace ho := ho.upL hs60 (df32)
      replace hw := hw.upL hs60 (df33)
      replace hp := hp.upL hs60 (df34)
      replace hm0 := (Mo.trL (ks := []) (hm0.mdn []) hs60 (MIL.ofK0 (nx35))).nil
      have hz10 := hs60.size
      have hbk_hf := hf.bk
      have hS60 := hS58.rename pN pX
      have e60 : ((pub7 old new n).rename pN pX).2 = (pub8 old new n) := rfl
      rw [e60] at hf hS60
      refine LR.nil ?_
      refine hK16 _ _ ?_
      refine CW.seq (fun K17 hK17 hE17 => ?_)
      refine CW.region ?_
      refine LR.v (Y.move rfl rfl) (Wd.u rfl) rfl rfl ?_
      -- call (*selvage/simfs.FS).SyncDir
      refine LR.call rfl Tryd.call24 rfl (Wd.u rfl) rfl rfl (syncDir_ct mx_ K60 g60 b20 (pub8 old new n) [100] w0 _ hf mx (bf_mx.mono (by omega)) (df37) (by decide) (hS60.bd (by omega))) (fun v62 H62 r62 => ?_)
      have ql42 := hf.bk
      obtain ⟨K62, g62, rfl, hf, hkd62, hs62⟩ := r62
      have df43 := DFL.appK (df37) (bf_mx.mono hm0.size) hkd62
      have df44 := DFL.appK (df38) (bf_ho.mono hm0.size) hkd62
      have df45 := DFL.appK (df39) (bf_hw.mono hm0.size) hkd62
      have df46 := DFL.appK (df40) (bf_hp.mono hm0.size) hkd62
      have nx47 : NxK [] H0.size K62 := NxK.tr (nx41) hkd62 hm0.size
      replace mx := mx.upL hs62 (df37)
      replace ho := ho.upL hs62 (df38)
      replace hw := hw.upL hs62 (df39)
      replace hp := hp.upL hs62 (df40)
      replace hm0 := (Mo.trL (ks := []) (hm0.mdn []) hs62 (MIL.ofK0 (nx41))).nil
      have hz11 := hs62.size
      have hbk_hf := hf.bk
      have hS62 := hS60.syncDir [100]
      have e62 : (pub8 old new n).syncDir [100] = pub9 old new n := rfl
      rw [e62] at hf hS62
      obtain ⟨q1, q2, q3, q4, q5, q6⟩ := pub_all (n := n) picks (show old.length ≤ 3000 by omega) (show new.length ≤ 3000 by omega) (by omega) (by omega)
      refine LR.v (Y.assign rfl rfl) (Wd.u rfl) rfl rfl ?_
      refine LR.nil ?_
      refine hK17 _ _ ?_
      refine CW.seq (fun K18 hK18 hE18 => ?_)
      refine CW.seq (fun K19 hK19 hE19 => ?_)
      refine CW.region ?_
      refine LR.v (Y.move rfl rfl) (Wd.u rfl) rfl rfl ?_
      refine LR.v (Y.eql rfl rfl rfl) (Wd.u rfl) rfl rfl ?_
      refine LR.v (Y.move rfl rfl) (Wd.u rfl) rfl rfl ?_
      refine LR.v (Y.leq rfl rfl rfl) (Wd.u rfl) rfl rfl ?_
      refine LR.v ((Y.bneq rfl Tryd.underlying4 rfl rfl).isF ((fun h => h (by have q7 : ((pub8 old new n).syncDir [100]).1 = 11 ↔ n ≤ 4 := q1; by_cases h4 : n ≤ 4 <;> simp only [decide_eq_decide] <;> omega)))) (Wd.u rfl) rfl rfl ?_
      refine LR.nil ?_
      refine hK19 _ _ ?_
      refine CW.cond_f rfl ?_
      refine CW.skip ?_
      refine hK18 _ _ ?_
      refine CW.cut (fun (_ : Unit) => [(0, s0.v), (1, s1.v), (3, s3.v), (9, ptr b20), (11, .int .i64 (n : Int))])
        (fun (_ : Unit) (H : Heap) => (True) ∧ Nw H62 H) (fun K20 hK20 hE20 => ?_) ?_
      ·
        have hcm20 : Nw H62 H62 := Mo.refl _ _
        refine CW.seq (fun K21 hK21 hE21 => ?_)
        refine CW.region ?_
        refine LR.v (Y.move rfl rfl) (Wd.u rfl) rfl rfl ?_
        refine LR.v (Y.leq rfl rfl rfl) (Wd.u rfl) rfl rfl ?_
        refine LR.nil ?_
        refine hK21 _ _ ?_
        refine CW.condp rfl (fun c69 => ?_) (fun c69 => ?_)
        ·
          refine CW.seq (fun K22 hK22 hE22 => ?_)
          refine CW.region ?_
          refine LR.v (Y.move rfl rfl) (Wd.u rfl) rfl rfl ?_
          -- call (*selvage/simfs.FS).Read
          refine LR.call rfl Tryd.call18 rfl (Wd.u rfl) rfl rfl (read_ct mx_ K62 g62 b20 (pub9 old new n).2 pX w0 _ mx (bf_mx.mono (by omega)) hf (by decide) (fun i => by have := ((hS62).f i).1; omega)) (fun v72 H72 r72 => ?_)
          obtain ⟨s72, k72, rfl, ow72, hk72, hs72⟩ := r72
          have df48 := DF.app (DF.z) (bf_mx.mono hm0.size) hk72
          have df49 := DF.app (DF.z) (bf_ho.mono hm0.size) hk72
          have df50 := DF.app (DF.z) (bf_hw.mono hm0.size) hk72
          have df51 := DF.app (DF.z) (bf_hp.mono hm0.size) hk72
          have dj52 : DL k72 K62 := DL.app2 (DL.zK) hf.bk hk72
          have nx53 : Nx 0 H0.size k72 := Nx.tr (Nx.refl 0 _) hk72 hm0.size
          have nx54 : Nx 0 H62.size k72 := Nx.tr (Nx.refl 0 _) hk72 hcm20.size
          replace mx := mx.nw hs72
          replace ho := ho.nw hs72
          replace hw := hw.nw hs72
          replace hp := hp.nw hs72
          replace hf := hf.nw hs72
          replace hm0 := hm0.tr hs72
          replace hcm20 := hcm20.tr hs72
          have hz12 := hs72.size
          have hle_ow72 := ow72.le
          refine LR.v (Y.move rfl rfl) (Wd.u rfl) rfl rfl ?_
          refine LR.v (Y.extract rfl rfl rfl) (Wd.u rfl) rfl rfl ?_
          refine LR.v (Y.extract rfl rfl rfl) (Wd.u rfl) rfl rfl ?_
          refine LR.v (Y.assign rfl rfl) (Wd.u rfl) rfl rfl ?_
          refine LR.v (Y.assign rfl rfl) (Wd.u rfl) rfl rfl ?_
          refine LR.nil ?_
          refine hK22 _ _ ?_
          refine CW.seq (fun K23 hK23 hE23 => ?_)
          refine CW.region ?_
          refine LR.v (Y.move rfl rfl) (Wd.u rfl) rfl rfl ?_
          refine LR.v ((Y.neq rfl rfl rfl).isF ((fun h => h (by rw [q2 (by omega)]; rfl)))) (Wd.u rfl) rfl rfl ?_
          refine LR.nil ?_
          refine hK23 _ _ ?_
          refine CW.cond_f rfl ?_
          refine CW.skip ?_
          refine QN.sub (hK20 () _ ?_) ⟨rfl, rfl, rfl, rfl, (iv (by omega)), trivial⟩
          exact ⟨trivial, hcm20⟩
        ·
          refine CW.skip ?_
          refine QN.sub (hK20 () _ ?_) ⟨rfl, rfl, rfl, rfl, (iv (by omega)), trivial⟩
          exact ⟨trivial, hcm20⟩
      ·
        intro _ Hcutc69 hIcutc69
        obtain ⟨htr, hlmcutc69⟩ := hIcutc69
        replace mx := mx.nw hlmcutc69
        replace ho := ho.nw hlmcutc69
        replace hw := hw.nw hlmcutc69
        replace hp := hp.nw hlmcutc69
        replace hf := hf.nw hlmcutc69
        replace hm0 := hm0.tr hlmcutc69
        have hz13 := hlmcutc69.size
        refine CW.seq (fun K24 hK24 hE24 => ?_)
        refine CW.region ?_
        refine LR.v (Y.move rfl rfl) (Wd.u rfl) rfl rfl ?_
        refine LR.v (Y.move rfl rfl) (Wd.u rfl) rfl rfl ?_
        -- call (*selvage/simfs.FS).Crash
        refine LR.call rfl Tryd.call25 rfl (Wd.u rfl) rfl rfl (crash_ct K62 g62 b20 (pub9 old new n).2 _ s3 picks w0 _ hf hp (bf_hp.mono (by omega)) (df46) (hS62.bd (by omega)) (hS62.wy (by omega)) (hpw)) (fun v79 H79 r79 => ?_)
        have ql55 := hf.bk
        obtain ⟨K79, g79, rfl, hf, hkd79, hs79⟩ := r79
        have df56 := DFL.appK (df43) (bf_mx.mono hm0.size) hkd79
        have df57 := DFL.appK (df44) (bf_ho.mono hm0.size) hkd79
        have df58 := DFL.appK (df45) (bf_hw.mono hm0.size) hkd79
        have df59 := DFL.appK (df46) (bf_hp.mono hm0.size) hkd79
        have nx60 : NxK [] H0.size K79 := NxK.tr (nx47) hkd79 hm0.size
        replace mx := mx.upL hs79 (df43)
        replace ho := ho.upL hs79 (df44)
        replace hw := hw.upL hs79 (df45)
        replace hp := hp.upL hs79 (df46)
        replace hm0 := (Mo.trL (ks := []) (hm0.mdn []) hs79 (MIL.ofK0 (nx47))).nil
        have hz14 := hs79.size
        have hbk_hf := hf.bk
        have hS79 := hS62.crash picks
        refine LR.nil ?_
        refine hK24 _ _ ?_
        refine CW.seq (fun K25 hK25 hE25 => ?_)
        refine CW.region ?_
        refine LR.v (Y.move rfl rfl) (Wd.u rfl) rfl rfl ?_
        -- call (*selvage/simfs.FS).Read
        refine LR.call rfl Tryd.call18 rfl (Wd.u rfl) rfl rfl (read_ct mx_ K79 g79 b20 ((pub9 old new n).2.crash picks) pX w0 _ mx (bf_mx.mono (by omega)) hf (by decide) (fun i => by have := ((hS79).f i).1; omega)) (fun v82 H82 r82 => ?_)
        obtain ⟨s82, k82, rfl, ow82, hk82, hs82⟩ := r82
        have df61 := DF.app (DF.z) (bf_mx.mono hm0.size) hk82
        have df62 := DF.app (DF.z) (bf_ho.mono hm0.size) hk82
        have df63 := DF.app (DF.z) (bf_hw.mono hm0.size) hk82
        have df64 := DF.app (DF.z) (bf_hp.mono hm0.size) hk82
        have dj65 : DL k82 K79 := DL.app2 (DL.zK) hf.bk hk82
        have nx66 : Nx 0 H0.size k82 := Nx.tr (Nx.refl 0 _) hk82 hm0.size
        replace mx := mx.nw hs82
        replace ho := ho.nw hs82
        replace hw := hw.nw hs82
        replace hp := hp.nw hs82
        replace hf := hf.nw hs82
        replace hm0 := hm0.tr hs82
        have hz15 := hs82.size
        have hle_ow82 := ow82.le
        refine LR.v (Y.move rfl rfl) (Wd.u rfl) rfl rfl ?_
        refine LR.v (Y.extract rfl rfl rfl) (Wd.u rfl) rfl rfl ?_
        refine LR.v (Y.extract rfl rfl rfl) (Wd.u rfl) rfl rfl ?_
        refine LR.v (Y.assign rfl rfl) (Wd.u rfl) rfl rfl ?_
        refine LR.v (Y.assign rfl rfl) (Wd.u rfl) rfl rfl ?_
        refine LR.nil ?_
        refine hK25 _ _ ?_
        refine CW.seq (fun K26 hK26 hE26 => ?_)
        refine CW.seq (fun K27 hK27 hE27 => ?_)
        refine CW.region ?_
        refine LR.v (Y.move rfl rfl) (Wd.u rfl) rfl rfl ?_
        refine LR.v ((Y.neq rfl rfl rfl).isF ((fun h => h (by rw [q3]; rfl)))) (Wd.u rfl) rfl rfl ?_
        refine LR.nil ?_
        refine hK27 _ _ ?_
        refine CW.cond_f rfl ?_
        refine CW.skip ?_
        refine hK26 _ _ ?_
        refine CW.seq (fun K28 hK28 hE28 => ?_)
        refine CW.seq (fun K29 hK29 hE29 => ?_)
        refine CW.region ?_
        refine LR.v (Y.move rfl rfl) (Wd.u rfl) rfl rfl ?_
        refine LR.v (Y.gtr rfl rfl rfl) (Wd.u rfl) rfl rfl ?_
        refine LR.nil ?_
        refine hK29 _ _ ?_
        refine CW.condp rfl (fun c88 => ?_) (fun c88 => ?_)
        ·
          refine CW.seq (fun K30 hK30 hE30 => ?_)
          refine CW.region ?_
          refine LR.v (Y.move rfl rfl) (Wd.u rfl) rfl rfl ?_
          refine LR.v (Y.bstr ow82.rd rfl Tryd.underlying25 Tryd.underlying9 Tryd.underlying5 rfl) (Wd.u rfl) rfl rfl ?_
          refine LR.v (Y.move rfl rfl) (Wd.u rfl) rfl rfl ?_
          refine LR.v (Y.bstr hw rfl Tryd.underlying25 Tryd.underlying9 Tryd.underlying5 rfl) (Wd.u rfl) rfl rfl ?_
          refine LR.v ((Y.seql rfl rfl rfl).isT ((by rw [q4 (by omega)]))) (Wd.u rfl) rfl rfl ?_
          refine LR.v (Y.assign rfl rfl) (Wd.u rfl) rfl rfl ?_
          refine LR.nil ?_
          refine hK30 _ _ ?_
          refine CW.ret (hE28 .ret nofun _ _ (hret .ret (.inr rfl) _ _ _ (res1 rfl rfl) ?_))
          exact ⟨rfl, hm0⟩
        ·
          refine CW.skip ?_
          refine hK28 _ _ ?_
          refine CW.seq (fun K31 hK31 hE31 => ?_)
          refine CW.seq (fun K32 hK32 hE32 => ?_)
          refine CW.region ?_
          refine LR.v (Y.move rfl rfl) (Wd.u rfl) rfl rfl ?_
          refine LR.v (Y.leq rfl rfl rfl) (Wd.u rfl) rfl rfl ?_
          refine LR.nil ?_
          refine hK32 _ _ ?_
          refine CW.condp rfl (fun c95 => ?_) (fun c95 => ?_)
          ·
            refine CW.seq (fun K33 hK33 hE33 => ?_)
            refine CW.region ?_
            refine LR.v (Y.move rfl rfl) (Wd.u rfl) rfl rfl ?_
            refine LR.v (Y.bstr ow82.rd rfl Tryd.underlying25 Tryd.underlying9 Tryd.underlying5 rfl) (Wd.u rfl) rfl rfl ?_
            refine LR.v (Y.move rfl rfl) (Wd.u rfl) rfl rfl ?_
            refine LR.v (Y.bstr ho rfl Tryd.underlying25 Tryd.underlying9 Tryd.underlying5 rfl) (Wd.u rfl) rfl rfl ?_
            refine LR.v ((Y.seql rfl rfl rfl).isT ((by rw [q5 (by omega)]))) (Wd.u rfl) rfl rfl ?_
            refine LR.v (Y.assign rfl rfl) (Wd.u rfl) rfl rfl ?_
            refine LR.nil ?_
            refine hK33 _ _ ?_
            refine CW.ret (hE31 .ret nofun _ _ (hret .ret (.inr rfl) _ _ _ (res1 rfl rfl) ?_))
            exact ⟨rfl, hm0⟩
          ·
            refine CW.skip ?_
            refine hK31 _ _ ?_
            refine CW.seq (fun K34 hK34 hE34 => ?_)
            refine CW.region ?_
            refine LR.v (Y.move rfl rfl) (Wd.u rfl) rfl rfl ?_
            refine LR.v (Y.bstr ow82.rd rfl Tryd.underlying25 Tryd.underlying9 Tryd.underlying5 rfl) (Wd.u rfl) rfl rfl ?_
            refine LR.v (Y.move rfl rfl) (Wd.u rfl) rfl rfl ?_
            refine LR.v (Y.bstr ho rfl Tryd.underlying25 Tryd.underlying9 Tryd.underlying5 rfl) (Wd.u rfl) rfl rfl ?_
            refine LR.v (Y.seql rfl rfl rfl) (Wd.u rfl) rfl rfl ?_
            refine LR.v (Y.move rfl rfl) (Wd.u rfl) rfl rfl ?_
            refine LR.splitp (d := 106) rfl (fun g106 => ?_) (fun g106 => ?_)
            ·
              refine LR.gs rfl rfl rfl rfl rfl rfl ?_
              refine LR.gs rfl rfl rfl rfl rfl rfl ?_
              refine LR.gs rfl rfl rfl rfl rfl rfl ?_
              refine LR.gs rfl rfl rfl rfl rfl rfl ?_
              refine LR.gs rfl rfl rfl rfl rfl rfl ?_
              refine LR.v (Y.pick_t rfl rfl rfl) (Wd.u rfl) rfl rfl ?_
              refine LR.v (Y.assign rfl rfl) (Wd.u rfl) rfl rfl ?_
              refine LR.nil ?_
              refine hK34 _ _ ?_
              refine CW.ret (hret .ret (.inr rfl) _ _ _ (res1 rfl rfl) ?_)
              exact ⟨rfl, hm0⟩
            ·
              refine LR.v (Y.move rfl rfl) (Wd.g rfl rfl rfl) rfl rfl ?_
              refine LR.v (Y.bstr ow82.rd rfl Tryd.underlying25 Tryd.underlying9 Tryd.underlying5 rfl) (Wd.g rfl rfl rfl) rfl rfl ?_
              refine LR.v (Y.move rfl rfl) (Wd.g rfl rfl rfl) rfl rfl ?_
              refine LR.v (Y.bstr hw rfl Tryd.underlying25 Tryd.underlying9 Tryd.underlying5 rfl) (Wd.g rfl rfl rfl) rfl rfl ?_
              refine LR.v ((Y.seql rfl rfl rfl).isT ((q6.resolve_left (by simpa using g106)))) (Wd.g rfl rfl rfl) rfl rfl ?_
              refine LR.v (Y.pick_f rfl rfl rfl) (Wd.u rfl) rfl rfl ?_
              refine LR.v (Y.assign rfl rfl) (Wd.u rfl) rfl rfl ?_
              refine LR.nil ?_
              refine hK34 _ _ ?_
              refine CW.ret (hret .ret (.inr rfl) _ _ _ (res1 rfl rfl) ?_)
              exact ⟨rfl, hm0⟩

end Go.Proofs.YtfbfjhppppoilaaDoor.SimV
