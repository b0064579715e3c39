/-
  Both tell the same pairs: the walk.
-/
import Derived.Test.YtclhnkmkejijjaaRenU
import Derived.Test.YtclhnkmkejijjaaRenW
namespace Go.Proofs.Ytclhnkmkejijjaa.RenX
open Go.Proofs.Ytclhnkmkejijjaa.E Go.RowKit Go.Proofs.Ytclhnkmkejijjaa.RenA Go.Proofs.Ytclhnkmkejijjaa.RenB Go.Proofs.Ytclhnkmkejijjaa.RenC Go.Proofs.Ytclhnkmkejijjaa.RenD Go.Proofs.Ytclhnkmkejijjaa.RenE Go.Proofs.Ytclhnkmkejijjaa.RenF Go.Proofs.Ytclhnkmkejijjaa.RenG Go.Proofs.Ytclhnkmkejijjaa.RenH Go.Proofs.Ytclhnkmkejijjaa.RenI Go.Proofs.Ytclhnkmkejijjaa.RenL Go.Proofs.Ytclhnkmkejijjaa.RenM Go.Proofs.Ytclhnkmkejijjaa.RenN Go.Proofs.Ytclhnkmkejijjaa.RenO Go.Proofs.Ytclhnkmkejijjaa.RenS Go.Proofs.Ytclhnkmkejijjaa.RenT Go.Proofs.Ytclhnkmkejijjaa.RenU Go.Proofs.Ytclhnkmkejijjaa.RenV Go.Proofs.Ytclhnkmkejijjaa.RenW
set_option maxRecDepth 20000
set_option linter.unusedVariables false
set_option linter.unusedSimpArgs false
set_option linter.unusedSectionVars false
set_option maxHeartbeats 8000000 in
theorem detects_ct (v1 v2 : Value) (a b : List Fl) (w0 : World) (H0 : Heap)
    (ha : RdT H0 fFl 3 v1 a) (hb : RdT H0 fFl 3 v2 b) (hx : ∀ x ∈ a, FlR (fun _ => True) H0 x) (hy : ∀ x ∈ b, FlR (fun _ => True) H0 x) (hba : ∀ x ∈ a, x.p.length ≤ 1099511627776) (hbb : ∀ x ∈ b, x.p.length ≤ 1099511627776) :
    Ct Try.prog w0 4 #[v1, v2] H0 (fun r H2 => r = .bool true ∧ Nw H0 H2) := by
  refine Ct.enter (args := [v1, v2]) Try.func4 rfl rfl rfl ?_
  intro Q0 hret
  have hm0 : Nw H0 H0 := Mo.refl _ _
  replace ha := ha.bnd
  have bf_ha := Rd.bf ha
  replace hb := hb.bnd
  have bf_hb := Rd.bf hb
  replace hx := fun x hx0 => (hx x hx0).bnd
  have bf_hx : BF (fun b => True ∧ b < H0.size) H0.size := fun b h => h.2
  replace hy := fun x hy0 => (hy x hy0).bnd
  have bf_hy : BF (fun b => True ∧ b < H0.size) H0.size := fun b h => h.2
  refine CW.seq (fun K1 hK1 hE1 => ?_)
  refine CW.region ?_
  refine LR.v (Y.assign rfl rfl) (Wd.u rfl) rfl rfl ?_
  refine LR.nil ?_
  refine hK1 _ _ ?_
  refine CW.seq (fun K2 hK2 hE2 => ?_)
  refine CW.seq (fun K3 hK3 hE3 => ?_)
  refine CW.region ?_
  -- call selvage/selvagelaw16.known
  refine LR.call rfl Try.call10 rfl (Wd.u rfl) rfl rfl (known_ct w0 _) (fun v6 H6 r6 => ?_)
  obtain ⟨rfl, hs6⟩ := r6
  replace ha := ha.nw hs6
  replace hb := hb.nw hs6
  replace hx := fun x hx0 => (hx x hx0).nw hs6
  replace hy := fun x hy0 => (hy x hy0).nw hs6
  replace hm0 := hm0.tr hs6
  have hz1 := hs6.size
  refine LR.v (Y.not rfl rfl) (Wd.u rfl) rfl rfl ?_
  refine LR.nil ?_
  refine hK3 _ _ ?_
  refine CW.cond_f rfl ?_
  refine CW.skip ?_
  refine hK2 _ _ ?_
  refine CW.seq (fun K4 hK4 hE4 => ?_)
  refine CW.region ?_
  refine LR.v (Y.move rfl rfl) (Wd.u rfl) rfl rfl ?_
  -- call selvage/selvagelaw15.Good
  refine LR.call rfl Try.call13 rfl (Wd.u rfl) rfl rfl (good_ct v1 a w0 _ ha.any (fun x hx_ => (hx x hx_).any) hba) (fun v9 H9 r9 => ?_)
  obtain ⟨v9_, koga, ga, rfl, oga, hkoga, hgl9, gax, bf_gax, hs9⟩ := r9
  have df1 := DF.app (DF.z) (bf_ha.mono hm0.size) hkoga
  have df2 := DF.app (DF.z) (bf_hb.mono hm0.size) hkoga
  have df3 := DF.app (DF.z) (bf_hx.mono hm0.size) hkoga
  have df4 := DF.app (DF.z) (bf_hy.mono hm0.size) hkoga
  have nx5 : Nx 0 H0.size koga := Nx.tr (Nx.refl 0 _) hkoga hm0.size
  replace ha := ha.nw hs9
  replace hb := hb.nw hs9
  replace hx := fun x hx0 => (hx x hx0).nw hs9
  replace hy := fun x hy0 => (hy x hy0).nw hs9
  replace hm0 := hm0.tr hs9
  have hz2 := hs9.size
  have hle_oga := oga.le
  have hgga := good_of hgl9 hba
  refine LR.v (Y.move rfl rfl) (Wd.u rfl) rfl rfl ?_
  -- call selvage/selvagelaw15.Good
  refine LR.call rfl Try.call13 rfl (Wd.u rfl) rfl rfl (good_ct v2 b w0 _ hb.any (fun x hx_ => (hy x hx_).any) hbb) (fun v11 H11 r11 => ?_)
  obtain ⟨v11_, kogb, gb, rfl, ogb, hkogb, hgl11, gbx, bf_gbx, hs11⟩ := r11
  have df6 := DF.app (DF.z) (bf_ha.mono hm0.size) hkogb
  have df7 := DF.app (DF.z) (bf_hb.mono hm0.size) hkogb
  have df8 := DF.app (DF.z) (bf_hx.mono hm0.size) hkogb
  have df9 := DF.app (DF.z) (bf_hy.mono hm0.size) hkogb
  have dj10 : Dj koga kogb := Dj.app (Dj.z) oga.le hkogb
  have df11 := DF.app (DF.z) (bf_gax.mono (by omega)) hkogb
  have nx12 : Nx 0 H0.size kogb := Nx.tr (Nx.refl 0 _) hkogb hm0.size
  replace ha := ha.nw hs11
  replace hb := hb.nw hs11
  replace hx := fun x hx0 => (hx x hx0).nw hs11
  replace hy := fun x hy0 => (hy x hy0).nw hs11
  replace oga := oga.nw hs11
  replace gax := fun x hx_ => (gax x hx_).nw hs11
  replace hm0 := hm0.tr hs11
  have hz3 := hs11.size
  have hle_ogb := ogb.le
  have hggb := good_of hgl11 hbb
  refine LR.v (Y.assign rfl rfl) (Wd.u rfl) rfl rfl ?_
  refine LR.v (Y.assign rfl rfl) (Wd.u rfl) rfl rfl ?_
  refine LR.nil ?_
  refine hK4 _ _ ?_
  refine CW.seq (fun K5 hK5 hE5 => ?_)
  refine CW.region ?_
  refine LR.v (Y.move rfl rfl) (Wd.u rfl) rfl rfl ?_
  -- call selvage/selvagelaw15.Twin
  refine LR.call rfl Try.call15 rfl (Wd.u rfl) rfl rfl (twin_ct v9 ga w0 _ oga.rd.any (fun x hx_ => (gax x hx_).any) (by have h9 := hgga.2.1; omega) (fun x hx_ => by have h9 := hgga.2.2 x hx_; omega)) (fun v13 H13 r13 => ?_)
  obtain ⟨v13_, kota, ta, rfl, ota, hkota, htl13, tax, hs13⟩ := r13
  have df13 := DF.app (DF.z) (bf_ha.mono hm0.size) hkota
  have df14 := DF.app (DF.z) (bf_hb.mono hm0.size) hkota
  have df15 := DF.app (DF.z) (bf_hx.mono hm0.size) hkota
  have df16 := DF.app (DF.z) (bf_hy.mono hm0.size) hkota
  have dj17 : Dj koga kota := Dj.app (Dj.z) oga.le hkota
  have df18 := DF.app (DF.z) (bf_gax.mono (by omega)) hkota
  have dj19 : Dj kogb kota := Dj.app (Dj.z) ogb.le hkota
  have df20 := DF.app (DF.z) (bf_gbx.mono (by omega)) hkota
  have nx21 : Nx 0 H0.size kota := Nx.tr (Nx.refl 0 _) hkota hm0.size
  replace ha := ha.nw hs13
  replace hb := hb.nw hs13
  replace hx := fun x hx0 => (hx x hx0).nw hs13
  replace hy := fun x hy0 => (hy x hy0).nw hs13
  replace oga := oga.nw hs13
  replace gax := fun x hx_ => (gax x hx_).nw hs13
  replace ogb := ogb.nw hs13
  replace gbx := fun x hx_ => (gbx x hx_).nw hs13
  replace hm0 := hm0.tr hs13
  have hz4 := hs13.size
  have hle_ota := ota.le
  have hlen13 := len_c htl13
  have hgl13_ := hgga.2.1
  refine LR.v (Y.move rfl rfl) (Wd.u rfl) rfl rfl ?_
  -- call selvage/selvagelaw15.Twin
  refine LR.call rfl Try.call15 rfl (Wd.u rfl) rfl rfl (twin_ct v11 gb w0 _ ogb.rd.any (fun x hx_ => (gbx x hx_).any) (by have h9 := hggb.2.1; omega) (fun x hx_ => by have h9 := hggb.2.2 x hx_; omega)) (fun v15 H15 r15 => ?_)
  obtain ⟨v15_, kotb, tb, rfl, otb, hkotb, htl15, tbx, hs15⟩ := r15
  have df22 := DF.app (DF.z) (bf_ha.mono hm0.size) hkotb
  have df23 := DF.app (DF.z) (bf_hb.mono hm0.size) hkotb
  have df24 := DF.app (DF.z) (bf_hx.mono hm0.size) hkotb
  have df25 := DF.app (DF.z) (bf_hy.mono hm0.size) hkotb
  have dj26 : Dj koga kotb := Dj.app (Dj.z) oga.le hkotb
  have df27 := DF.app (DF.z) (bf_gax.mono (by omega)) hkotb
  have dj28 : Dj kogb kotb := Dj.app (Dj.z) ogb.le hkotb
  have df29 := DF.app (DF.z) (bf_gbx.mono (by omega)) hkotb
  have dj30 : Dj kota kotb := Dj.app (Dj.z) ota.le hkotb
  have nx31 : Nx 0 H0.size kotb := Nx.tr (Nx.refl 0 _) hkotb hm0.size
  replace ha := ha.nw hs15
  replace hb := hb.nw hs15
  replace hx := fun x hx0 => (hx x hx0).nw hs15
  replace hy := fun x hy0 => (hy x hy0).nw hs15
  replace oga := oga.nw hs15
  replace gax := fun x hx_ => (gax x hx_).nw hs15
  replace ogb := ogb.nw hs15
  replace gbx := fun x hx_ => (gbx x hx_).nw hs15
  replace ota := ota.nw hs15
  replace tax := tax.nw hs15
  replace hm0 := hm0.tr hs15
  have hz5 := hs15.size
  have hle_otb := otb.le
  have hlen15 := len_c htl15
  have hgl15_ := hggb.2.1
  -- call selvage/selvageref15.Diff
  refine LR.call rfl Try.call14 rfl (Wd.u rfl) rfl rfl (diff_ct v13 v15 ta tb w0 _ ota.rd.any otb.rd.any (fun x h => (tax.all x h).any) (fun x h => (tbx.all x h).any) (by omega) (by omega)) (fun v16 H16 r16 => ?_)
  obtain ⟨vc_, kc, rfl, oc, hkc, hdl, hs16⟩ := r16
  have df32 := DF.app (DF.z) (bf_ha.mono hm0.size) hkc
  have df33 := DF.app (DF.z) (bf_hb.mono hm0.size) hkc
  have df34 := DF.app (DF.z) (bf_hx.mono hm0.size) hkc
  have df35 := DF.app (DF.z) (bf_hy.mono hm0.size) hkc
  have dj36 : Dj koga kc := Dj.app (Dj.z) oga.le hkc
  have df37 := DF.app (DF.z) (bf_gax.mono (by omega)) hkc
  have dj38 : Dj kogb kc := Dj.app (Dj.z) ogb.le hkc
  have df39 := DF.app (DF.z) (bf_gbx.mono (by omega)) hkc
  have dj40 : Dj kota kc := Dj.app (Dj.z) ota.le hkc
  have dj41 : Dj kotb kc := Dj.app (Dj.z) otb.le hkc
  have nx42 : Nx 0 H0.size kc := Nx.tr (Nx.refl 0 _) hkc hm0.size
  replace ha := ha.nw hs16
  replace hb := hb.nw hs16
  replace hx := fun x hx0 => (hx x hx0).nw hs16
  replace hy := fun x hy0 => (hy x hy0).nw hs16
  replace oga := oga.nw hs16
  replace gax := fun x hx_ => (gax x hx_).nw hs16
  replace ogb := ogb.nw hs16
  replace gbx := fun x hx_ => (gbx x hx_).nw hs16
  replace ota := ota.nw hs16
  replace tax := tax.nw hs16
  replace otb := otb.nw hs16
  replace tbx := tbx.nw hs16
  replace hm0 := hm0.tr hs16
  have hz6 := hs16.size
  have hle_oc := oc.le
  refine LR.v (Y.assign rfl rfl) (Wd.u rfl) rfl rfl ?_
  refine LR.nil ?_
  refine hK5 _ _ ?_
  refine CW.seq (fun K6 hK6 hE6 => ?_)
  refine CW.region ?_
  refine LR.v (Y.move rfl rfl) (Wd.u rfl) rfl rfl ?_
  -- call selvage/rename.Detect
  refine LR.call rfl Try.call17 rfl (Wd.u rfl) rfl rfl (detect_ct v16 (diffL ta tb) w0 _ oc.rd.any (fun c hc => (diffL_all (Q := FlR (fun _ => True) _) (zFl_R _) ta tb (fun x h => (tax.all x h).any) (fun x h => (tbx.all x h).any) c hc).1) (fun c hc => (diffL_all (Q := FlR (fun _ => True) _) (zFl_R _) ta tb (fun x h => (tax.all x h).any) (fun x h => (tbx.all x h).any) c hc).2) (by omega) (diffL_all (Q := fun x => x.p.length ≤ 9223372036854775806 ∧ x.d.length ≤ 1048576) (by decide) ta tb (fun x h => by have h9 := good_c hgga htl13 x h; omega) (fun x h => by have h9 := good_c hggb htl15 x h; omega))) (fun v18 H18 r18 => ?_)
  obtain ⟨vd_, kd, out, rfl, od, hkd, hdet, hs18⟩ := r18
  have df43 := DF.app (DF.z) (bf_ha.mono hm0.size) hkd
  have df44 := DF.app (DF.z) (bf_hb.mono hm0.size) hkd
  have df45 := DF.app (DF.z) (bf_hx.mono hm0.size) hkd
  have df46 := DF.app (DF.z) (bf_hy.mono hm0.size) hkd
  have dj47 : Dj koga kd := Dj.app (Dj.z) oga.le hkd
  have df48 := DF.app (DF.z) (bf_gax.mono (by omega)) hkd
  have dj49 : Dj kogb kd := Dj.app (Dj.z) ogb.le hkd
  have df50 := DF.app (DF.z) (bf_gbx.mono (by omega)) hkd
  have dj51 : Dj kota kd := Dj.app (Dj.z) ota.le hkd
  have dj52 : Dj kotb kd := Dj.app (Dj.z) otb.le hkd
  have dj53 : Dj kc kd := Dj.app (Dj.z) oc.le hkd
  have nx54 : Nx 0 H0.size kd := Nx.tr (Nx.refl 0 _) hkd hm0.size
  replace ha := ha.nw hs18
  replace hb := hb.nw hs18
  replace hx := fun x hx0 => (hx x hx0).nw hs18
  replace hy := fun x hy0 => (hy x hy0).nw hs18
  replace oga := oga.nw hs18
  replace gax := fun x hx_ => (gax x hx_).nw hs18
  replace ogb := ogb.nw hs18
  replace gbx := fun x hx_ => (gbx x hx_).nw hs18
  replace ota := ota.nw hs18
  replace tax := tax.nw hs18
  replace otb := otb.nw hs18
  replace tbx := tbx.nw hs18
  replace oc := oc.nw hs18
  replace hm0 := hm0.tr hs18
  have hz7 := hs18.size
  have hle_od := od.le
  refine LR.v (Y.move rfl rfl) (Wd.u rfl) rfl rfl ?_
  refine LR.v (Y.move rfl rfl) (Wd.u rfl) rfl rfl ?_
  -- call selvage/selvageref15.Diff
  refine LR.call rfl Try.call14 rfl (Wd.u rfl) rfl rfl (diff_ct v9 v11 ga gb w0 _ oga.rd.any ogb.rd.any (fun x h => (gax x h).any) (fun x h => (gbx x h).any) (by have h9 := hgga.2.1; omega) (by have h9 := hggb.2.1; omega)) (fun v21 H21 r21 => ?_)
  obtain ⟨vc2_, kc2, rfl, oc2, hkc2, hdl2, hs21⟩ := r21
  have df55 := DF.app (DF.z) (bf_ha.mono hm0.size) hkc2
  have df56 := DF.app (DF.z) (bf_hb.mono hm0.size) hkc2
  have df57 := DF.app (DF.z) (bf_hx.mono hm0.size) hkc2
  have df58 := DF.app (DF.z) (bf_hy.mono hm0.size) hkc2
  have dj59 : Dj koga kc2 := Dj.app (Dj.z) oga.le hkc2
  have df60 := DF.app (DF.z) (bf_gax.mono (by omega)) hkc2
  have dj61 : Dj kogb kc2 := Dj.app (Dj.z) ogb.le hkc2
  have df62 := DF.app (DF.z) (bf_gbx.mono (by omega)) hkc2
  have dj63 : Dj kota kc2 := Dj.app (Dj.z) ota.le hkc2
  have dj64 : Dj kotb kc2 := Dj.app (Dj.z) otb.le hkc2
  have dj65 : Dj kc kc2 := Dj.app (Dj.z) oc.le hkc2
  have dj66 : Dj kd kc2 := Dj.app (Dj.z) od.le hkc2
  have nx67 : Nx 0 H0.size kc2 := Nx.tr (Nx.refl 0 _) hkc2 hm0.size
  replace ha := ha.nw hs21
  replace hb := hb.nw hs21
  replace hx := fun x hx0 => (hx x hx0).nw hs21
  replace hy := fun x hy0 => (hy x hy0).nw hs21
  replace oga := oga.nw hs21
  replace gax := fun x hx_ => (gax x hx_).nw hs21
  replace ogb := ogb.nw hs21
  replace gbx := fun x hx_ => (gbx x hx_).nw hs21
  replace ota := ota.nw hs21
  replace tax := tax.nw hs21
  replace otb := otb.nw hs21
  replace tbx := tbx.nw hs21
  replace oc := oc.nw hs21
  replace od := od.nw hs21
  replace hm0 := hm0.tr hs21
  have hz8 := hs21.size
  have hle_oc2 := oc2.le
  -- call selvage/selvageref16.Detect
  refine LR.call rfl Try.call18 rfl (Wd.u rfl) rfl rfl (rdetect_ct v21 (diffL ga gb) w0 _ oc2.rd.any (fun c hc => (diffL_all (Q := FlR (fun _ => True) _) (zFl_R _) ga gb (fun x h => (gax x h).any) (fun x h => (gbx x h).any) c hc).1) (fun c hc => (diffL_all (Q := FlR (fun _ => True) _) (zFl_R _) ga gb (fun x h => (gax x h).any) (fun x h => (gbx x h).any) c hc).2) (by have h9 := hgga.2.1; have h8 := hggb.2.1; omega) (diffL_all (Q := fun x => x.p.length ≤ 9223372036854775806 ∧ x.d.length ≤ 1048576) (by decide) ga gb (fun x h => by have h9 := hgga.2.2 x h; omega) (fun x h => by have h9 := hggb.2.2 x h; omega)) (good_asc hgga hggb).1 (good_asc hgga hggb).2) (fun v22 H22 r22 => ?_)
  obtain ⟨vd2_, kd2, out2, rfl, od2, hkd2, hdet2, hs22⟩ := r22
  have df68 := DF.app (DF.z) (bf_ha.mono hm0.size) hkd2
  have df69 := DF.app (DF.z) (bf_hb.mono hm0.size) hkd2
  have df70 := DF.app (DF.z) (bf_hx.mono hm0.size) hkd2
  have df71 := DF.app (DF.z) (bf_hy.mono hm0.size) hkd2
  have dj72 : Dj koga kd2 := Dj.app (Dj.z) oga.le hkd2
  have df73 := DF.app (DF.z) (bf_gax.mono (by omega)) hkd2
  have dj74 : Dj kogb kd2 := Dj.app (Dj.z) ogb.le hkd2
  have df75 := DF.app (DF.z) (bf_gbx.mono (by omega)) hkd2
  have dj76 : Dj kota kd2 := Dj.app (Dj.z) ota.le hkd2
  have dj77 : Dj kotb kd2 := Dj.app (Dj.z) otb.le hkd2
  have dj78 : Dj kc kd2 := Dj.app (Dj.z) oc.le hkd2
  have dj79 : Dj kd kd2 := Dj.app (Dj.z) od.le hkd2
  have dj80 : Dj kc2 kd2 := Dj.app (Dj.z) oc2.le hkd2
  have nx81 : Nx 0 H0.size kd2 := Nx.tr (Nx.refl 0 _) hkd2 hm0.size
  replace ha := ha.nw hs22
  replace hb := hb.nw hs22
  replace hx := fun x hx0 => (hx x hx0).nw hs22
  replace hy := fun x hy0 => (hy x hy0).nw hs22
  replace oga := oga.nw hs22
  replace gax := fun x hx_ => (gax x hx_).nw hs22
  replace ogb := ogb.nw hs22
  replace gbx := fun x hx_ => (gbx x hx_).nw hs22
  replace ota := ota.nw hs22
  replace tax := tax.nw hs22
  replace otb := otb.nw hs22
  replace tbx := tbx.nw hs22
  replace oc := oc.nw hs22
  replace od := od.nw hs22
  replace oc2 := oc2.nw hs22
  replace hm0 := hm0.tr hs22
  have hz9 := hs22.size
  have hle_od2 := od2.le
  have hout := twin_det hgga hggb htl13 htl15 hdet hdet2
  subst hout
  -- call selvage/selvagelaw16.samePairs
  refine LR.call rfl Try.call16 rfl (Wd.u rfl) rfl rfl (same_ct v18 v22 out w0 _ od.rd.any od2.rd.any) (fun v23 H23 r23 => ?_)
  obtain ⟨rfl, hs23⟩ := r23
  replace ha := ha.nw hs23
  replace hb := hb.nw hs23
  replace hx := fun x hx0 => (hx x hx0).nw hs23
  replace hy := fun x hy0 => (hy x hy0).nw hs23
  replace oga := oga.nw hs23
  replace gax := fun x hx_ => (gax x hx_).nw hs23
  replace ogb := ogb.nw hs23
  replace gbx := fun x hx_ => (gbx x hx_).nw hs23
  replace ota := ota.nw hs23
  replace tax := tax.nw hs23
  replace otb := otb.nw hs23
  replace tbx := tbx.nw hs23
  replace oc := oc.nw hs23
  replace od := od.nw hs23
  replace oc2 := oc2.nw hs23
  replace od2 := od2.nw hs23
  replace hm0 := hm0.tr hs23
  have hz10 := hs23.size
  refine LR.v (Y.assign rfl rfl) (Wd.u rfl) rfl rfl ?_
  refine LR.nil ?_
  refine hK6 _ _ ?_
  refine CW.ret (hret .ret (.inr rfl) _ _ _ (res1 rfl rfl) ?_)
  exact ⟨rfl, hm0⟩

end Go.Proofs.Ytclhnkmkejijjaa.RenX
