/-
  The contract of DeltaBytes.
-/
import Derived.Test.YtjkjdpainenofaaDelG
namespace Go.Proofs.Ytjkjdpainenofaa.DelH
open Go.Proofs.Ytjkjdpainenofaa.E Go.RowKit Go.Proofs.Ytjkjdpainenofaa.Num Go.Proofs.Ytjkjdpainenofaa.DelA Go.Proofs.Ytjkjdpainenofaa.DelB Go.Proofs.Ytjkjdpainenofaa.DelC Go.Proofs.Ytjkjdpainenofaa.DelD Go.Proofs.Ytjkjdpainenofaa.DelE Go.Proofs.Ytjkjdpainenofaa.DelF Go.Proofs.Ytjkjdpainenofaa.DelG
set_option linter.unusedVariables false
set_option linter.unusedSimpArgs false
set_option linter.unusedSectionVars false
theorem inf22 : Inf Try.prog 22 5 1 1 := ⟨Try.underlying22, _, _, rfl, rfl, rfl, rfl, rfl⟩
set_option maxHeartbeats 4000000 in
theorem deltaBytes_ct (v0 v1 v2 : Value) (bs tg d : List UInt8) (w0 : World) (H0 : Heap)
    (hb : RdT H0 fB 1 v0 bs) (ht : RdT H0 fB 1 v1 tg) (hd : RdT H0 fB 1 v2 d) :
    Ct Try.prog w0 3 #[v0, v1, v2] H0 (fun r H2 => r = .bool true ∧ Nw H0 H2) := by
  refine Ct.enter (args := [v0, v1, v2]) Try.func3 rfl rfl rfl ?_
  intro Q0 hret
  have hm0 : Nw H0 H0 := Mo.refl _ _
  replace hb := hb.bnd
  have bf_hb := Rd.bf hb
  replace ht := ht.bnd
  have bf_ht := Rd.bf ht
  replace hd := hd.bnd
  have bf_hd := Rd.bf hd
  refine CW.seq (fun K1 hK1 hE1 => ?_)
  refine CW.region ?_
  refine LR.v (Y.assign rfl rfl) (Wd.u rfl) rfl rfl ?_
  refine LR.nil ?_
  refine hK1 _ _ ?_
  refine CW.seq (fun K2 hK2 hE2 => ?_)
  refine CW.seq (fun K3 hK3 hE3 => ?_)
  refine CW.region ?_
  -- call selvage/selvagelaw6.known
  refine LR.call rfl Try.call7 rfl (Wd.u rfl) rfl rfl (known_ct w0 _) (fun v13 H13 r13 => ?_)
  obtain ⟨rfl, hs13⟩ := r13
  replace hb := hb.nw hs13
  replace ht := ht.nw hs13
  replace hd := hd.nw hs13
  replace hm0 := hm0.tr hs13
  have hz1 := hs13.size
  refine LR.v (Y.not rfl rfl) (Wd.u rfl) rfl rfl ?_
  refine LR.nil ?_
  refine hK3 _ _ ?_
  refine CW.cond_f rfl ?_
  refine CW.skip ?_
  refine hK2 _ _ ?_
  refine CW.seq (fun K4 hK4 hE4 => ?_)
  refine CW.seq (fun K5 hK5 hE5 => ?_)
  refine CW.region ?_
  refine LR.v (Y.move rfl rfl) (Wd.u rfl) rfl rfl ?_
  refine LR.v (Y.len hb rfl Try.runUnderlying22 rfl) (Wd.u rfl) rfl rfl ?_
  refine LR.v (Y.gtr rfl rfl rfl) (Wd.u rfl) rfl rfl ?_
  refine LR.v (Y.move rfl rfl) (Wd.u rfl) rfl rfl ?_
  refine LR.splitp (d := 18) rfl (fun g18 => ?_) (fun g18 => ?_)
  ·
    refine LR.gs rfl rfl rfl rfl rfl rfl ?_
    refine LR.gs rfl rfl rfl rfl rfl rfl ?_
    refine LR.gs rfl rfl rfl rfl rfl rfl ?_
    refine LR.v (Y.pick_t rfl rfl rfl) (Wd.u rfl) rfl rfl ?_
    refine LR.v (Y.move rfl rfl) (Wd.u rfl) rfl rfl ?_
    refine LR.gs rfl rfl rfl rfl rfl rfl ?_
    refine LR.gs rfl rfl rfl rfl rfl rfl ?_
    refine LR.gs rfl rfl rfl rfl rfl rfl ?_
    refine LR.v (Y.pick_t rfl rfl rfl) (Wd.u rfl) rfl rfl ?_
    refine LR.nil ?_
    refine hK5 _ _ ?_
    refine CW.cond_t rfl ?_
    refine CW.seq (fun K6 hK6 hE6 => ?_)
    refine CW.region ?_
    refine LR.v (Y.assign rfl rfl) (Wd.u rfl) rfl rfl ?_
    refine LR.nil ?_
    refine hK6 _ _ ?_
    refine CW.ret (hE4 .ret nofun _ _ (hret .ret (.inr rfl) _ _ _ (res1 rfl rfl) ?_))
    exact ⟨rfl, hm0⟩
  ·
    refine LR.v (Y.move rfl rfl) (Wd.g rfl rfl rfl) rfl rfl ?_
    refine LR.v (Y.len ht rfl Try.runUnderlying22 rfl) (Wd.g rfl rfl rfl) rfl rfl ?_
    refine LR.v (Y.gtr rfl rfl rfl) (Wd.g rfl rfl rfl) rfl rfl ?_
    refine LR.v (Y.pick_f rfl rfl rfl) (Wd.u rfl) rfl rfl ?_
    refine LR.v (Y.move rfl rfl) (Wd.u rfl) rfl rfl ?_
    refine LR.splitp (d := 23) rfl (fun g23 => ?_) (fun g23 => ?_)
    ·
      refine LR.gs rfl rfl rfl rfl rfl rfl ?_
      refine LR.gs rfl rfl rfl rfl rfl rfl ?_
      refine LR.gs rfl rfl rfl rfl rfl rfl ?_
      refine LR.v (Y.pick_t rfl rfl rfl) (Wd.u rfl) rfl rfl ?_
      refine LR.nil ?_
      refine hK5 _ _ ?_
      refine CW.cond_t rfl ?_
      refine CW.seq (fun K7 hK7 hE7 => ?_)
      refine CW.region ?_
      refine LR.v (Y.assign rfl rfl) (Wd.u rfl) rfl rfl ?_
      refine LR.nil ?_
      refine hK7 _ _ ?_
      refine CW.ret (hE4 .ret nofun _ _ (hret .ret (.inr rfl) _ _ _ (res1 rfl rfl) ?_))
      exact ⟨rfl, hm0⟩
    ·
      refine LR.v (Y.move rfl rfl) (Wd.g rfl rfl rfl) rfl rfl ?_
      refine LR.v (Y.len hd rfl Try.runUnderlying22 rfl) (Wd.g rfl rfl rfl) rfl rfl ?_
      refine LR.v (Y.gtr rfl rfl rfl) (Wd.g rfl rfl rfl) rfl rfl ?_
      refine LR.v (Y.pick_f rfl rfl rfl) (Wd.u rfl) rfl rfl ?_
      refine LR.nil ?_
      refine hK5 _ _ ?_
      refine CW.condp rfl (fun c27 => ?_) (fun c27 => ?_)
      ·
        refine CW.seq (fun K8 hK8 hE8 => ?_)
        refine CW.region ?_
        refine LR.v (Y.assign rfl rfl) (Wd.u rfl) rfl rfl ?_
        refine LR.nil ?_
        refine hK8 _ _ ?_
        refine CW.ret (hE4 .ret nofun _ _ (hret .ret (.inr rfl) _ _ _ (res1 rfl rfl) ?_))
        exact ⟨rfl, hm0⟩
      ·
        refine CW.skip ?_
        refine hK4 _ _ ?_
        refine CW.seq (fun K9 hK9 hE9 => ?_)
        refine CW.region ?_
        refine LR.z (Z.litw _ (([] : List UInt8)) rfl inf22 rfl rfl rfl (by decide) (by decide) fB_len fB_one (rfl)) (Wd.u rfl) rfl rfl (fun v28 H28 r28 => ?_)
        obtain ⟨ow28, hs28, ob28, hH28⟩ := r28
        have hzs28 : H28.size = H13.size + 1 := by rw [hH28]; simp
        have df1 := (DF.new (bf_hb.mono hm0.size) : DF _ (H13.size + 1))
        have df2 := (DF.new (bf_ht.mono hm0.size) : DF _ (H13.size + 1))
        have df3 := (DF.new (bf_hd.mono hm0.size) : DF _ (H13.size + 1))
        have nx4 : Nx 0 H0.size (H13.size + 1) := Nx.new hm0.size
        replace hb := hb.nw hs28
        replace ht := ht.nw hs28
        replace hd := hd.nw hs28
        replace hm0 := hm0.tr hs28
        have hz2 := hs28.size
        refine LR.v (Y.move rfl rfl) (Wd.u rfl) rfl rfl ?_
        refine LR.z (Z.apnd ow28 hb rfl inf22 rfl rfl (by first | omega | (simp; omega)) (by first | omega | (simp; omega))) (Wd.u rfl) rfl rfl (fun v30 H30 r30 => ?_)
        obtain ⟨k30, owx, hk30, hs30⟩ := r30
        replace hk30 : Nx (H13.size + 1) H28.size k30 := hk30
        replace hs30 := hs30.md
        have df5 := DF.app (df1) (bf_hb.mono hm0.size) hk30
        have df6 := DF.app (df2) (bf_ht.mono hm0.size) hk30
        have df7 := DF.app (df3) (bf_hd.mono hm0.size) hk30
        have nx8 : Nx 0 H0.size k30 := Nx.tr (nx4) hk30 hm0.size
        replace hb := hb.upL hs30 (DFL.cons df1 DFL.nil)
        replace ht := ht.upL hs30 (DFL.cons df2 DFL.nil)
        replace hd := hd.upL hs30 (DFL.cons df3 DFL.nil)
        replace hm0 := (Mo.trL (ks := []) (hm0.mdn []) hs30 (MIL.cons (MI.app MI.z (nx4) (Nat.le_refl _)) MIL.nil)).nil
        have hz3 := hs30.size
        have hle_owx := owx.le
        rw [List.nil_append] at owx
        refine LR.v (Y.assign rfl rfl) (Wd.u rfl) rfl rfl ?_
        refine LR.nil ?_
        refine hK9 _ _ ?_
        refine CW.seq (fun K10 hK10 hE10 => ?_)
        refine CW.region ?_
        refine LR.z (Z.litw _ (([] : List UInt8)) rfl inf22 rfl rfl rfl (by decide) (by decide) fB_len fB_one (rfl)) (Wd.u rfl) rfl rfl (fun v31 H31 r31 => ?_)
        obtain ⟨ow31, hs31, ob31, hH31⟩ := r31
        have hzs31 : H31.size = H30.size + 1 := by rw [hH31]; simp
        have df9 := (DF.new (bf_hb.mono hm0.size) : DF _ (H30.size + 1))
        have df10 := (DF.new (bf_ht.mono hm0.size) : DF _ (H30.size + 1))
        have df11 := (DF.new (bf_hd.mono hm0.size) : DF _ (H30.size + 1))
        have dj12 : Dj k30 (H30.size + 1) := Dj.new owx.le
        have nx13 : Nx 0 H0.size (H30.size + 1) := Nx.new hm0.size
        replace hb := hb.nw hs31
        replace ht := ht.nw hs31
        replace hd := hd.nw hs31
        replace owx := owx.nw hs31
        replace hm0 := hm0.tr hs31
        have hz4 := hs31.size
        refine LR.v (Y.move rfl rfl) (Wd.u rfl) rfl rfl ?_
        refine LR.z (Z.apnd ow31 ht rfl inf22 rfl rfl (by first | omega | (simp; omega)) (by first | omega | (simp; omega))) (Wd.u rfl) rfl rfl (fun v33 H33 r33 => ?_)
        obtain ⟨k33, owy, hk33, hs33⟩ := r33
        replace hk33 : Nx (H30.size + 1) H31.size k33 := hk33
        replace hs33 := hs33.md
        have df14 := DF.app (df9) (bf_hb.mono hm0.size) hk33
        have df15 := DF.app (df10) (bf_ht.mono hm0.size) hk33
        have df16 := DF.app (df11) (bf_hd.mono hm0.size) hk33
        have dj17 : Dj k30 k33 := Dj.app (dj12) owx.le hk33
        have nx18 : Nx 0 H0.size k33 := Nx.tr (nx13) hk33 hm0.size
        replace hb := hb.upL hs33 (DFL.cons df9 DFL.nil)
        replace ht := ht.upL hs33 (DFL.cons df10 DFL.nil)
        replace hd := hd.upL hs33 (DFL.cons df11 DFL.nil)
        replace owx := owx.upL hs33 (DL.cons dj12 DL.nil)
        replace hm0 := (Mo.trL (ks := []) (hm0.mdn []) hs33 (MIL.cons (MI.app MI.z (nx13) (Nat.le_refl _)) MIL.nil)).nil
        have hz5 := hs33.size
        have hle_owy := owy.le
        rw [List.nil_append] at owy
        refine LR.v (Y.assign rfl rfl) (Wd.u rfl) rfl rfl ?_
        refine LR.nil ?_
        refine hK10 _ _ ?_
        refine CW.seq (fun K11 hK11 hE11 => ?_)
        refine CW.region ?_
        refine LR.v (Y.move rfl rfl) (Wd.u rfl) rfl rfl ?_
        refine LR.z (Z.litw _ (([] : List UInt8)) rfl inf22 rfl rfl rfl (by decide) (by decide) fB_len fB_one (rfl)) (Wd.u rfl) rfl rfl (fun v36 H36 r36 => ?_)
        obtain ⟨ow36, hs36, ob36, hH36⟩ := r36
        have hzs36 : H36.size = H33.size + 1 := by rw [hH36]; simp
        have df19 := (DF.new (bf_hb.mono hm0.size) : DF _ (H33.size + 1))
        have df20 := (DF.new (bf_ht.mono hm0.size) : DF _ (H33.size + 1))
        have df21 := (DF.new (bf_hd.mono hm0.size) : DF _ (H33.size + 1))
        have dj22 : Dj k30 (H33.size + 1) := Dj.new owx.le
        have dj23 : Dj k33 (H33.size + 1) := Dj.new owy.le
        have nx24 : Nx 0 H0.size (H33.size + 1) := Nx.new hm0.size
        replace hb := hb.nw hs36
        replace ht := ht.nw hs36
        replace hd := hd.nw hs36
        replace owx := owx.nw hs36
        replace owy := owy.nw hs36
        replace hm0 := hm0.tr hs36
        have hz6 := hs36.size
        refine LR.v (Y.move rfl rfl) (Wd.u rfl) rfl rfl ?_
        refine LR.z (Z.apnd ow36 hd rfl inf22 rfl rfl (by first | omega | (simp; omega)) (by first | omega | (simp; omega))) (Wd.u rfl) rfl rfl (fun v38 H38 r38 => ?_)
        obtain ⟨k38, owd, hk38, hs38⟩ := r38
        replace hk38 : Nx (H33.size + 1) H36.size k38 := hk38
        replace hs38 := hs38.md
        have df25 := DF.app (df19) (bf_hb.mono hm0.size) hk38
        have df26 := DF.app (df20) (bf_ht.mono hm0.size) hk38
        have df27 := DF.app (df21) (bf_hd.mono hm0.size) hk38
        have dj28 : Dj k30 k38 := Dj.app (dj22) owx.le hk38
        have dj29 : Dj k33 k38 := Dj.app (dj23) owy.le hk38
        have nx30 : Nx 0 H0.size k38 := Nx.tr (nx24) hk38 hm0.size
        replace hb := hb.upL hs38 (DFL.cons df19 DFL.nil)
        replace ht := ht.upL hs38 (DFL.cons df20 DFL.nil)
        replace hd := hd.upL hs38 (DFL.cons df21 DFL.nil)
        replace owx := owx.upL hs38 (DL.cons dj22 DL.nil)
        replace owy := owy.upL hs38 (DL.cons dj23 DL.nil)
        replace hm0 := (Mo.trL (ks := []) (hm0.mdn []) hs38 (MIL.cons (MI.app MI.z (nx24) (Nat.le_refl _)) MIL.nil)).nil
        have hz7 := hs38.size
        have hle_owd := owd.le
        rw [List.nil_append] at owd
        -- call selvage/delta.Apply
        refine LR.call rfl Try.call8 rfl (Wd.u rfl) rfl rfl (apply_ct _ _ bs d w0 _ owx.rd.any owd.rd.any (by omega) (by omega)) (fun v39 H39 r39 => ?_)
        obtain ⟨v39, ka, xa, ea, rfl, hqa, hk39, hxa, hs39⟩ := r39
        have df31 := DF.app (DF.z) (bf_hb.mono hm0.size) hk39
        have df32 := DF.app (DF.z) (bf_ht.mono hm0.size) hk39
        have df33 := DF.app (DF.z) (bf_hd.mono hm0.size) hk39
        have dj34 : Dj k30 ka := Dj.app (Dj.z) owx.le hk39
        have dj35 : Dj k33 ka := Dj.app (Dj.z) owy.le hk39
        have dj36 : Dj k38 ka := Dj.app (Dj.z) owd.le hk39
        have nx37 : Nx 0 H0.size ka := Nx.tr (Nx.refl 0 _) hk39 hm0.size
        replace hb := hb.nw hs39
        replace ht := ht.nw hs39
        replace hd := hd.nw hs39
        replace owx := owx.nw hs39
        replace owy := owy.nw hs39
        replace owd := owd.nw hs39
        replace hm0 := hm0.tr hs39
        have hz8 := hs39.size
        have hle_hqa := hqa.le
        refine LR.v (Y.move rfl rfl) (Wd.u rfl) rfl rfl ?_
        refine LR.v (Y.extract rfl rfl rfl) (Wd.u rfl) rfl rfl ?_
        refine LR.v (Y.extract rfl rfl rfl) (Wd.u rfl) rfl rfl ?_
        refine LR.v (Y.assign rfl rfl) (Wd.u rfl) rfl rfl ?_
        refine LR.v (Y.assign rfl rfl) (Wd.u rfl) rfl rfl ?_
        refine LR.nil ?_
        refine hK11 _ _ ?_
        refine CW.seq (fun K12 hK12 hE12 => ?_)
        refine CW.region ?_
        refine LR.v (Y.move rfl rfl) (Wd.u rfl) rfl rfl ?_
        refine LR.v (Y.move rfl rfl) (Wd.u rfl) rfl rfl ?_
        -- call selvage/selvageref6.Apply
        refine LR.call rfl Try.call9 rfl (Wd.u rfl) rfl rfl (rapply_ct _ _ bs d w0 _ hb.any hd.any (by omega) (by omega)) (fun v45 H45 r45 => ?_)
        obtain ⟨v45, kb, xb, eb, rfl, hqb, hk45, hxb, hs45⟩ := r45
        have df38 := DF.app (DF.z) (bf_hb.mono hm0.size) hk45
        have df39 := DF.app (DF.z) (bf_ht.mono hm0.size) hk45
        have df40 := DF.app (DF.z) (bf_hd.mono hm0.size) hk45
        have dj41 : Dj k30 kb := Dj.app (Dj.z) owx.le hk45
        have dj42 : Dj k33 kb := Dj.app (Dj.z) owy.le hk45
        have dj43 : Dj ka kb := Dj.app (Dj.z) hqa.le hk45
        have nx44 : Nx 0 H0.size kb := Nx.tr (Nx.refl 0 _) hk45 hm0.size
        replace hb := hb.nw hs45
        replace ht := ht.nw hs45
        replace hd := hd.nw hs45
        replace owx := owx.nw hs45
        replace owy := owy.nw hs45
        replace hqa := hqa.nw hs45
        replace hm0 := hm0.tr hs45
        have hz9 := hs45.size
        have hle_hqb := hqb.le
        obtain ⟨rfl, rfl⟩ := Prod.mk.inj (hxa.symm.trans hxb)
        refine LR.v (Y.move rfl rfl) (Wd.u rfl) rfl rfl ?_
        refine LR.v (Y.extract rfl rfl rfl) (Wd.u rfl) rfl rfl ?_
        refine LR.v (Y.extract rfl rfl rfl) (Wd.u rfl) rfl rfl ?_
        refine LR.v (Y.assign rfl rfl) (Wd.u rfl) rfl rfl ?_
        refine LR.v (Y.assign rfl rfl) (Wd.u rfl) rfl rfl ?_
        refine LR.nil ?_
        refine hK12 _ _ ?_
        refine CW.seq (fun K13 hK13 hE13 => ?_)
        refine CW.region_any (fun Hq => Nw H45 Hq) [] rfl ?_
        have hqs := Nw.refl H45
        refine LH.take 0 (by kernel_rfl) rfl (by kernel_rfl) (by kernel_rfl) (by kernel_rfl) (fun Hq hq => Y.move rfl rfl) (Wd.u rfl) rfl rfl hqs ?_
        refine LH.take 1 (by kernel_rfl) rfl (by kernel_rfl) (by kernel_rfl) (by kernel_rfl) (fun Hq hq => Y.move rfl rfl) (Wd.u rfl) rfl rfl hqs ?_
        refine LH.take 4 (by kernel_rfl) rfl (by kernel_rfl) (by kernel_rfl) (by kernel_rfl) (fun Hq hq => Y.move rfl rfl) (Wd.u rfl) rfl rfl hqs ?_
        refine LH.take 5 (by kernel_rfl) rfl (by kernel_rfl) (by kernel_rfl) (by kernel_rfl) (fun Hq hq => Y.move rfl rfl) (Wd.u rfl) rfl rfl hqs ?_
        refine LH.one (i := 2) (by kernel_rfl) ?_
        -- call selvage/delta.Make
        refine LO.call rfl rfl Try.call10 rfl (Wd.u rfl) rfl rfl (make_ct _ _ bs tg w0 _ owx.rd.any owy.rd.any (by omega) (by omega)) (fun v50 H50 r50 => ?_)
        obtain ⟨v50, km, p50, s50, rfl, hE50, owm, hk50, hs50⟩ := r50
        have df45 := DF.app (DF.z) (bf_hb.mono hm0.size) hk50
        have df46 := DF.app (DF.z) (bf_ht.mono hm0.size) hk50
        have df47 := DF.app (DF.z) (bf_hd.mono hm0.size) hk50
        have dj48 : Dj k30 km := Dj.app (Dj.z) owx.le hk50
        have dj49 : Dj k33 km := Dj.app (Dj.z) owy.le hk50
        have dj50 : Dj ka km := Dj.app (Dj.z) hqa.le hk50
        have dj51 : Dj kb km := Dj.app (Dj.z) hqb.le hk50
        have nx52 : Nx 0 H0.size km := Nx.tr (Nx.refl 0 _) hk50 hm0.size
        replace hb := hb.nw hs50
        replace ht := ht.nw hs50
        replace hd := hd.nw hs50
        replace owx := owx.nw hs50
        replace owy := owy.nw hs50
        replace hqa := hqa.nw hs50
        replace hqb := hqb.nw hs50
        replace hm0 := hm0.tr hs50
        have hz10 := hs50.size
        have hle_owm := owm.le
        have hq50 := hqs.tr hs50
        refine ⟨.inr hq50, LH.narrow (SH2 := fun Hq => Nw H50 Hq) (fun Hq hq => hq50.tr hq) ?_⟩
        have hqn50 := Nw.refl H50
        refine LH.take 3 (by kernel_rfl) rfl (by kernel_rfl) (by kernel_rfl) (by kernel_rfl) (fun Hq hq => Y.bstr (owm.rd.nw hq) rfl Try.underlying22 Try.underlying9 Try.underlying5 rfl) (Wd.u rfl) rfl rfl hqn50 ?_
        refine LH.one (i := 6) (by kernel_rfl) ?_
        -- call selvage/selvageref6.Make
        refine LO.call rfl rfl Try.call11 rfl (Wd.u rfl) rfl rfl (rmake_ct _ _ bs tg w0 _ hb.any ht.any (by omega) (by omega)) (fun v54 H54 r54 => ?_)
        obtain ⟨v54, kn, p54, s54, rfl, hE54, own_, hk54, hs54⟩ := r54
        have df53 := DF.app (DF.z) (bf_hb.mono hm0.size) hk54
        have df54 := DF.app (DF.z) (bf_ht.mono hm0.size) hk54
        have df55 := DF.app (DF.z) (bf_hd.mono hm0.size) hk54
        have dj56 : Dj k30 kn := Dj.app (Dj.z) owx.le hk54
        have dj57 : Dj k33 kn := Dj.app (Dj.z) owy.le hk54
        have dj58 : Dj ka kn := Dj.app (Dj.z) hqa.le hk54
        have dj59 : Dj kb kn := Dj.app (Dj.z) hqb.le hk54
        have dj60 : Dj km kn := Dj.app (Dj.z) owm.le hk54
        have nx61 : Nx 0 H0.size kn := Nx.tr (Nx.refl 0 _) hk54 hm0.size
        replace hb := hb.nw hs54
        replace ht := ht.nw hs54
        replace hd := hd.nw hs54
        replace owx := owx.nw hs54
        replace owy := owy.nw hs54
        replace hqa := hqa.nw hs54
        replace hqb := hqb.nw hs54
        replace owm := owm.nw hs54
        replace hm0 := hm0.tr hs54
        have hz11 := hs54.size
        have hle_own_ := own_.le
        obtain ⟨rfl, rfl⟩ := hE50.one hE54
        have hq54 := hqn50.tr hs54
        refine ⟨.inr hq54, LH.narrow (SH2 := fun Hq => Nw H54 Hq) (fun Hq hq => hq54.tr hq) ?_⟩
        have hqn54 := Nw.refl H54
        refine LH.take 7 (by kernel_rfl) rfl (by kernel_rfl) (by kernel_rfl) (by kernel_rfl) (fun Hq hq => Y.bstr (own_.rd.nw hq) rfl Try.underlying22 Try.underlying9 Try.underlying5 rfl) (Wd.u rfl) rfl rfl hqn54 ?_
        refine LH.take 8 (by kernel_rfl) rfl (by kernel_rfl) (by kernel_rfl) (by kernel_rfl) (fun Hq hq => (Y.seql rfl rfl rfl).isT (rfl)) (Wd.u rfl) rfl rfl hqn54 ?_
        refine LH.take 9 (by kernel_rfl) rfl (by kernel_rfl) (by kernel_rfl) (by kernel_rfl) (fun Hq hq => Y.move rfl rfl) (Wd.u rfl) rfl rfl hqn54 ?_
        refine LH.take 10 (by kernel_rfl) rfl (by kernel_rfl) (by kernel_rfl) (by kernel_rfl) (fun Hq hq => Y.move rfl rfl) (Wd.g rfl rfl rfl) rfl rfl hqn54 ?_
        refine LH.take 11 (by kernel_rfl) rfl (by kernel_rfl) (by kernel_rfl) (by kernel_rfl) (fun Hq hq => Y.bstr (hqa.rd.nw hq) rfl Try.underlying22 Try.underlying9 Try.underlying5 rfl) (Wd.g rfl rfl rfl) rfl rfl hqn54 ?_
        refine LH.take 12 (by kernel_rfl) rfl (by kernel_rfl) (by kernel_rfl) (by kernel_rfl) (fun Hq hq => Y.move rfl rfl) (Wd.g rfl rfl rfl) rfl rfl hqn54 ?_
        refine LH.take 13 (by kernel_rfl) rfl (by kernel_rfl) (by kernel_rfl) (by kernel_rfl) (fun Hq hq => Y.bstr (hqb.rd.nw hq) rfl Try.underlying22 Try.underlying9 Try.underlying5 rfl) (Wd.g rfl rfl rfl) rfl rfl hqn54 ?_
        refine LH.take 14 (by kernel_rfl) rfl (by kernel_rfl) (by kernel_rfl) (by kernel_rfl) (fun Hq hq => (Y.seql rfl rfl rfl).isT (rfl)) (Wd.g rfl rfl rfl) rfl rfl hqn54 ?_
        refine LH.take 15 (by kernel_rfl) rfl (by kernel_rfl) (by kernel_rfl) (by kernel_rfl) (fun Hq hq => Y.pick_t rfl rfl rfl) (Wd.u rfl) rfl rfl hqn54 ?_
        refine LH.take 16 (by kernel_rfl) rfl (by kernel_rfl) (by kernel_rfl) (by kernel_rfl) (fun Hq hq => Y.move rfl rfl) (Wd.u rfl) rfl rfl hqn54 ?_
        refine LH.take 17 (by kernel_rfl) rfl (by kernel_rfl) (by kernel_rfl) (by kernel_rfl) (fun Hq hq => Y.move rfl rfl) (Wd.g rfl rfl rfl) rfl rfl hqn54 ?_
        refine LH.take 18 (by kernel_rfl) rfl (by kernel_rfl) (by kernel_rfl) (by kernel_rfl) (fun Hq hq => Y.move rfl rfl) (Wd.g rfl rfl rfl) rfl rfl hqn54 ?_
        refine LH.take 19 (by kernel_rfl) rfl (by kernel_rfl) (by kernel_rfl) (by kernel_rfl) (fun Hq hq => (Y.eql rfl rfl rfl).isT (rfl)) (Wd.g rfl rfl rfl) rfl rfl hqn54 ?_
        refine LH.take 20 (by kernel_rfl) rfl (by kernel_rfl) (by kernel_rfl) (by kernel_rfl) (fun Hq hq => Y.pick_t rfl rfl rfl) (Wd.u rfl) rfl rfl hqn54 ?_
        refine LH.take 21 (by kernel_rfl) rfl (by kernel_rfl) (by kernel_rfl) (by kernel_rfl) (fun Hq hq => Y.move rfl rfl) (Wd.u rfl) rfl rfl hqn54 ?_
        refine LH.take 22 (by kernel_rfl) rfl (by kernel_rfl) (by kernel_rfl) (by kernel_rfl) (fun Hq hq => Y.move rfl rfl) (Wd.g rfl rfl rfl) rfl rfl hqn54 ?_
        refine LH.take 23 (by kernel_rfl) rfl (by kernel_rfl) (by kernel_rfl) (by kernel_rfl) (fun Hq hq => Y.bstr (owx.rd.nw hq) rfl Try.underlying22 Try.underlying9 Try.underlying5 rfl) (Wd.g rfl rfl rfl) rfl rfl hqn54 ?_
        refine LH.take 24 (by kernel_rfl) rfl (by kernel_rfl) (by kernel_rfl) (by kernel_rfl) (fun Hq hq => Y.move rfl rfl) (Wd.g rfl rfl rfl) rfl rfl hqn54 ?_
        refine LH.take 25 (by kernel_rfl) rfl (by kernel_rfl) (by kernel_rfl) (by kernel_rfl) (fun Hq hq => Y.bstr (hb.nw hq) rfl Try.underlying22 Try.underlying9 Try.underlying5 rfl) (Wd.g rfl rfl rfl) rfl rfl hqn54 ?_
        refine LH.take 26 (by kernel_rfl) rfl (by kernel_rfl) (by kernel_rfl) (by kernel_rfl) (fun Hq hq => (Y.seql rfl rfl rfl).isT (rfl)) (Wd.g rfl rfl rfl) rfl rfl hqn54 ?_
        refine LH.take 27 (by kernel_rfl) rfl (by kernel_rfl) (by kernel_rfl) (by kernel_rfl) (fun Hq hq => Y.pick_t rfl rfl rfl) (Wd.u rfl) rfl rfl hqn54 ?_
        refine LH.take 28 (by kernel_rfl) rfl (by kernel_rfl) (by kernel_rfl) (by kernel_rfl) (fun Hq hq => Y.move rfl rfl) (Wd.u rfl) rfl rfl hqn54 ?_
        refine LH.take 29 (by kernel_rfl) rfl (by kernel_rfl) (by kernel_rfl) (by kernel_rfl) (fun Hq hq => Y.move rfl rfl) (Wd.g rfl rfl rfl) rfl rfl hqn54 ?_
        refine LH.take 30 (by kernel_rfl) rfl (by kernel_rfl) (by kernel_rfl) (by kernel_rfl) (fun Hq hq => Y.bstr (owy.rd.nw hq) rfl Try.underlying22 Try.underlying9 Try.underlying5 rfl) (Wd.g rfl rfl rfl) rfl rfl hqn54 ?_
        refine LH.take 31 (by kernel_rfl) rfl (by kernel_rfl) (by kernel_rfl) (by kernel_rfl) (fun Hq hq => Y.move rfl rfl) (Wd.g rfl rfl rfl) rfl rfl hqn54 ?_
        refine LH.take 32 (by kernel_rfl) rfl (by kernel_rfl) (by kernel_rfl) (by kernel_rfl) (fun Hq hq => Y.bstr (ht.nw hq) rfl Try.underlying22 Try.underlying9 Try.underlying5 rfl) (Wd.g rfl rfl rfl) rfl rfl hqn54 ?_
        refine LH.take 33 (by kernel_rfl) rfl (by kernel_rfl) (by kernel_rfl) (by kernel_rfl) (fun Hq hq => (Y.seql rfl rfl rfl).isT (rfl)) (Wd.g rfl rfl rfl) rfl rfl hqn54 ?_
        refine LH.take 34 (by kernel_rfl) rfl (by kernel_rfl) (by kernel_rfl) (by kernel_rfl) (fun Hq hq => Y.pick_t rfl rfl rfl) (Wd.u rfl) rfl rfl hqn54 ?_
        refine LH.take 35 (by kernel_rfl) rfl (by kernel_rfl) (by kernel_rfl) (by kernel_rfl) (fun Hq hq => Y.assign rfl rfl) (Wd.u rfl) rfl rfl hqn54 ?_
        refine LH.done (by kernel_rfl) ?_
        have hqe := hqn54
        refine hK13 _ _ ?_
        refine CW.ret (hret .ret (.inr rfl) _ _ _ (res1 rfl rfl) ?_)
        exact ⟨rfl, hm0⟩

end Go.Proofs.Ytjkjdpainenofaa.DelH
