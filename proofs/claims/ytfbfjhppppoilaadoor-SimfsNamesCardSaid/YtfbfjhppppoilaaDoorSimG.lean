/-
  The disk: directories that are made, changes of names.
-/
import Derived.Test.YtfbfjhppppoilaaDoorSimF
namespace Go.Proofs.YtfbfjhppppoilaaDoor.SimG
open Go.Proofs.YtfbfjhppppoilaaDoor.E Go.RowKit Go.Proofs.YtfbfjhppppoilaaDoor.SimA Go.Proofs.YtfbfjhppppoilaaDoor.SimB Go.Proofs.YtfbfjhppppoilaaDoor.SimC Go.Proofs.YtfbfjhppppoilaaDoor.SimD Go.Proofs.YtfbfjhppppoilaaDoor.SimE Go.Proofs.YtfbfjhppppoilaaDoor.SimF
set_option maxRecDepth 20000
set_option linter.unusedVariables false
set_option linter.unusedSimpArgs false
set_option linter.unusedSectionVars false
set_option maxRecDepth 100000 in
theorem inf82 : Inf Tryd.prog 82 96 3 40 := ⟨Tryd.underlying82, _, _, rfl, rfl, rfl, rfl, rfl⟩
theorem mkdir_ct (K : List Nat) (g : Gh) (b : Nat) (D : Dk) (p : Pth) (w0 : World) (H0 : Heap)
    (hf : PDk K g H0 b D) (hdl : g.dm.length + 1 ≤ D.ops) :
    Ct Tryd.prog w0 39 #[ptr b, Str p] H0 (fun r H2 => ∃ K2 : List Nat, ∃ g2 : Gh, ∃ db : Nat, r = ptr db ∧ (PDk K2 g2 H2 b D) ∧ (NxK K H0.size K2) ∧ (mget g2.dm p = some db) ∧ (g2.fb = g.fb) ∧ Mo (Ms K) H0 H2) := by
  refine Ct.enter (args := [ptr b, Str p]) Tryd.func39 rfl rfl rfl ?_
  intro Q0 hret
  have hm0 : Mo (Ms K) H0 H0 := Mo.refl _ _
  have nx_hm0_hf := NxK.refl K H0.size
  have hbk_hf := hf.bk
  refine CW.seq (fun K1 hK1 hE1 => ?_)
  refine CW.region ?_
  refine LR.v (Y.assign rfl rfl) (Wd.u rfl) rfl rfl ?_
  refine LR.nil ?_
  refine hK1 _ _ ?_
  refine CW.seq (fun K2 hK2 hE2 => ?_)
  refine CW.region ?_
  refine LR.v (Y.move rfl rfl) (Wd.u rfl) rfl rfl ?_
  refine LR.v (Y.nilCheck rfl rfl) (Wd.u rfl) rfl rfl ?_
  refine LR.v (Y.fieldAddr hf.vb.pt rfl Tryd.runUnderlying64 rfl rfl Tryd.sizeOf57 (by decide) rfl) (Wd.u rfl) rfl rfl ?_
  refine LR.v (Y.load1 (hf.vb.pt.drop 2) rfl Tryd.isAgg57 rfl) (Wd.u rfl) rfl rfl ?_
  refine LR.v (Y.move rfl rfl) (Wd.u rfl) rfl rfl ?_
  refine LR.v (look_p adO hf.hm.mo (fun _ => rfl) keyStr rfl Tryd.runUnderlying57 Tryd.underlying9 Tryd.zeroValue77 rfl rfl) (Wd.u rfl) rfl rfl ?_
  refine LR.v (Y.assign rfl rfl) (Wd.u rfl) rfl rfl ?_
  refine LR.nil ?_
  refine hK2 _ _ ?_
  refine CW.seq (fun K3 hK3 hE3 => ?_)
  refine CW.seq (fun K4 hK4 hE4 => ?_)
  refine CW.region ?_
  refine LR.v (Y.move rfl rfl) (Wd.u rfl) rfl rfl ?_
  refine LR.v (Y.peq rfl (by kernel_rfl) (by kernel_rfl) rfl rfl) (Wd.u rfl) rfl rfl ?_
  refine LR.nil ?_
  refine hK4 _ _ ?_
  refine CW.cond rfl (fun c13 => ?_) (fun c13 => ?_)
  ·
    have hnd : mget g.dm p = none := by
      cases hq : mget g.dm p with
      | none => rfl
      | some db => rw [hq] at c13; cases c13
    refine CW.seq (fun K5 hK5 hE5 => ?_)
    refine CW.region ?_
    refine LR.z (Z.makeMp Str (fvl g.fb) rfl) (Wd.u rfl) rfl rfl (fun v14 H14 r14 => ?_)
    obtain ⟨rfl, hn, hs14, ob14, hH14⟩ := r14
    have hzs14 : H14.size = H0.size + 1 := by rw [hH14]; simp
    have dj1 : DL (H0.size + 1) K := DL.newK hf.bk
    have nx2 : Nx 0 H0.size (H0.size + 1) := Nx.new hm0.size
    replace hf := hf.nw hs14
    replace hm0 := hm0.trN hs14
    have hz1 := hs14.size
    have hlt_hn := hn.lt
    refine LR.z (Z.makeMp Str (fvl g.fb) rfl) (Wd.u rfl) rfl rfl (fun v15 H15 r15 => ?_)
    obtain ⟨rfl, hs, hs15, ob15, hH15⟩ := r15
    have hzs15 : H15.size = H14.size + 1 := by rw [hH15]; simp
    have dj3 : DL (H14.size + 1) K := DL.newK hf.bk
    have dj4 : Dj (H0.size + 1) (H14.size + 1) := Dj.new hn.lt
    have nx5 : Nx 0 H0.size (H14.size + 1) := Nx.new hm0.size
    replace hf := hf.nw hs15
    replace hn := hn.nw hs15
    replace hm0 := hm0.trN hs15
    have hz2 := hs15.size
    have hlt_hs := hs.lt
    refine LR.v (Y.build (v := .agg #[.map (some H0.size), .map (some H14.size)]) rfl rfl (by intro w; kernel_rfl)) (Wd.u rfl) rfl rfl ?_
    refine LR.v (Y.build (v := .agg #[.map (some H0.size), .map (some H14.size), .slice none 0 0]) rfl rfl (by intro w; kernel_rfl)) (Wd.u rfl) rfl rfl ?_
    refine LR.z (Z.boxv rfl rfl) (Wd.u rfl) rfl rfl (fun v18 H18 r18 => ?_)
    obtain ⟨rfl, hvd, hs18, ob18, hH18⟩ := r18
    have hzs18 : H18.size = H15.size + 1 := by rw [hH18]; simp
    have dj6 : DL (H15.size + 1) K := DL.newK hf.bk
    have dj7 : Dj (H0.size + 1) (H15.size + 1) := Dj.new hn.lt
    have dj8 : Dj (H14.size + 1) (H15.size + 1) := Dj.new hs.lt
    have nx9 : Nx 0 H0.size (H15.size + 1) := Nx.new hm0.size
    replace hf := hf.nw hs18
    replace hn := hn.nw hs18
    replace hs := hs.nw hs18
    replace hm0 := hm0.trN hs18
    have hz3 := hs18.size
    replace hvd : Var 84 H18 H15.size ([.map (some H0.size), .map (some H14.size), .slice none 0 0]) := hvd
    refine LR.v (Y.assign rfl rfl) (Wd.u rfl) rfl rfl ?_
    refine LR.nil ?_
    refine hK5 _ _ ?_
    refine CW.region ?_
    refine LR.v (Y.move rfl rfl) (Wd.u rfl) rfl rfl ?_
    refine LR.v (Y.nilCheck rfl rfl) (Wd.u rfl) rfl rfl ?_
    refine LR.v (Y.fieldAddr hf.vb.pt rfl Tryd.runUnderlying64 rfl rfl Tryd.sizeOf57 (by decide) rfl) (Wd.u rfl) rfl rfl ?_
    refine LR.v (Y.load1 (hf.vb.pt.drop 2) rfl Tryd.isAgg57 rfl) (Wd.u rfl) rfl rfl ?_
    refine LR.v (Y.move rfl rfl) (Wd.u rfl) rfl rfl ?_
    refine LR.v (Y.move rfl rfl) (Wd.u rfl) rfl rfl ?_
    refine LR.s (S.putMp H15.size hf.hm keyStr rfl Tryd.runUnderlying57 Tryd.underlying9 rfl rfl rfl) (Wd.u rfl) rfl (fun H4_6 r4_6 => ?_)
    obtain ⟨hmp, hw4_6⟩ := r4_6
    have hs4_6 := hf.ms hw4_6 (fun c e => by rw [e, hf.rm]; simp)
    replace hm0 := hm0.trL hs4_6 (MIL.ofK (nx_hm0_hf) (by intro k hk; simp [hk]))
    have hz4 := hs4_6.size
    have dj10 : DL (H14.size + 1) ((H0.size + 1) :: K) := DL.cons (dj4.symm) (dj3)
    have dj11 : DL (H15.size + 1) ((H0.size + 1) :: K) := DL.cons (dj7.symm) (dj6)
    have nx12 := NxK.cons (nx2) (nx_hm0_hf)
    have dj13 : DL (H15.size + 1) ((H14.size + 1) :: ((H0.size + 1) :: K)) := DL.cons (dj8.symm) (dj11)
    have nx14 := NxK.cons (nx5) (nx12)
    have nx15 := NxK.cons (nx9) (nx14)
    replace hf := hf.newDir hnd hvd hn hs (dj6) (dj1) (dj3) (by omega) (by omega) (by omega) hw4_6.md1 hmp hdl
    have hbk_hf := hf.bk
    refine LR.nil ?_
    refine hK3 _ _ ?_
    refine CW.seq (fun K6 hK6 hE6 => ?_)
    refine CW.region ?_
    refine LR.v (Y.move rfl rfl) (Wd.u rfl) rfl rfl ?_
    refine LR.v (Y.assign rfl rfl) (Wd.u rfl) rfl rfl ?_
    refine LR.nil ?_
    refine hK6 _ _ ?_
    refine CW.ret (hret .ret (.inr rfl) _ _ _ (res1 rfl rfl) ?_)
    exact ⟨_, _, _, rfl, hf, nx15, by show mget (mput g.dm p _) p = _; rw [mget_put, if_pos rfl], rfl, hm0⟩
  ·
    obtain ⟨db, hdb⟩ : ∃ db, mget g.dm p = some db := by
      cases hq : mget g.dm p with
      | none => rw [hq] at c13; cases c13
      | some db => exact ⟨db, rfl⟩
    refine CW.skip ?_
    refine hK3 _ _ ?_
    refine CW.seq (fun K7 hK7 hE7 => ?_)
    refine CW.region ?_
    refine LR.v (Y.move rfl rfl) (Wd.u rfl) rfl rfl ?_
    refine LR.v (Y.assign rfl rfl) (Wd.u rfl) rfl rfl ?_
    refine LR.nil ?_
    refine hK7 _ _ ?_
    refine CW.ret (hret .ret (.inr rfl) _ _ _ (res1 rfl rfl) ?_)
    exact ⟨K, g, db, by rw [hdb]; rfl, hf, nx_hm0_hf, hdb, rfl, hm0⟩

set_option maxHeartbeats 2000000 in
theorem change_ct (K : List Nat) (g : Gh) (b : Nat) (D : Dk) (p : Pth) (c : Chg) (w0 : World) (H0 : Heap)
    (hf : PDk K g H0 b D) (hdl : g.dm.length + 1 ≤ D.ops) (hcd : c.dir = p) (hcn : ∀ i, c.f = some i → dirP c.n = p ∧ i < D.fs.length) (hcg : c.g ≠ [] → dirP c.g = p) (hll : D.log.length ≤ 1099511627776) :
    Ct Tryd.prog w0 48 #[ptr b, Str p, .agg (fC g.fb c).toArray] H0 (fun r H2 => ∃ K2 : List Nat, ∃ g2 : Gh, r = .tuple #[] ∧ (PDk K2 g2 H2 b (D.change c)) ∧ (NxK K H0.size K2) ∧ (g2.fb = g.fb) ∧ Mo (Ms K) H0 H2) := by
  refine Ct.enter (args := [ptr b, Str p, .agg (fC g.fb c).toArray]) Tryd.func48 rfl rfl rfl ?_
  intro Q0 hret
  have hm0 : Mo (Ms K) H0 H0 := Mo.refl _ _
  have nx_hm0_hf := NxK.refl K H0.size
  have hbk_hf := hf.bk
  refine CW.seq (fun K1 hK1 hE1 => ?_)
  refine CW.region ?_
  refine LR.z (Z.boxv rfl rfl) (Wd.u rfl) rfl rfl (fun v5 H5 r5 => ?_)
  obtain ⟨rfl, vc, hs5, ob5, hH5⟩ := r5
  have hzs5 : H5.size = H0.size + 1 := by rw [hH5]; simp
  have dj1 : DL (H0.size + 1) K := DL.newK hf.bk
  have nx2 : Nx 0 H0.size (H0.size + 1) := Nx.new hm0.size
  replace hf := hf.nw hs5
  replace hm0 := hm0.trN hs5
  have hz1 := hs5.size
  replace vc : Var 96 H5 H0.size (fC g.fb c) := vc
  refine LR.nil ?_
  refine hK1 _ _ ?_
  refine CW.seq (fun K2 hK2 hE2 => ?_)
  refine CW.region ?_
  refine LR.v (Y.move rfl rfl) (Wd.u rfl) rfl rfl ?_
  refine LR.v (Y.move rfl rfl) (Wd.u rfl) rfl rfl ?_
  -- call (*selvage/simfs.FS).dir
  refine LR.call rfl Tryd.call39 rfl (Wd.u rfl) rfl rfl (mkdir_ct K g b D p w0 _ hf hdl) (fun v9 H9 r9 => ?_)
  have ql3 := hf.bk
  have ql4 := vc.lt
  obtain ⟨K9, g9, db, rfl, hf, hkd9, hdb, hg9, hs9⟩ := r9
  have dj5 : DL (H0.size + 1) K9 := DL.appK (dj1) ql4 hkd9
  have nx6 : NxK K H0.size K9 := NxK.tr (nx_hm0_hf) hkd9 hm0.size
  replace vc := vc.upL hs9 (dj1)
  replace hm0 := hm0.trL hs9 (MIL.ofK (nx_hm0_hf) (by intro k hk; simp [hk]))
  have hz2 := hs9.size
  have hbk_hf := hf.bk
  rw [← hg9] at vc
  refine LR.v (Y.assign rfl rfl) (Wd.u rfl) rfl rfl ?_
  refine LR.nil ?_
  refine hK2 _ _ ?_
  refine CW.seq (fun K3 hK3 hE3 => ?_)
  obtain ⟨nbA, sbA, kcA, svA, nmA, smA, hdA⟩ := hf.dirs _ db hdb
  refine CW.region_tail 6 rfl (by kernel_rfl) (fun T2 hT2 => ?_)
  refine LR.v (Y.move rfl rfl) (Wd.u rfl) rfl rfl ?_
  refine LR.v (Y.nilCheck rfl rfl) (Wd.u rfl) rfl rfl ?_
  refine LR.v (Y.fieldAddr hdA.vd.pt rfl Tryd.runUnderlying84 rfl rfl Tryd.sizeOf81 (by decide) rfl) (Wd.u rfl) rfl rfl ?_
  refine LR.v (Y.fieldAddr (hdA.vd.pt.drop 0) rfl Tryd.runUnderlying81 rfl rfl Tryd.sizeOf79 (by decide) rfl) (Wd.u rfl) rfl rfl ?_
  refine LR.v (Y.load1 ((hdA.vd.pt.drop 0).drop 0) rfl Tryd.isAgg79 rfl) (Wd.u rfl) rfl rfl ?_
  refine LR.v (Y.loadN vc.pt rfl Tryd.isAgg96 Tryd.sizeOf96 (rfl) rfl) (Wd.u rfl) rfl rfl ?_
  refine LR.nil (hT2 _ ?_)
  refine LR.call rfl Tryd.call44 rfl (Wd.u rfl) rfl rfl ((put_ct g9.fb nbA nmA c w0 _ hdA.hn).mono (fun r H2 h => hf.put hdb hdA h.2 h.1 (mget_apM c nmA) (fun i hi => ⟨(hcn i hi).1, (hcn i hi).2⟩) hcg)) (fun v16 H16 r16 => ?_)
  obtain ⟨hf, hs16⟩ := r16
  replace vc := vc.upL hs16 (dj5)
  replace hm0 := hm0.trL hs16 (MIL.ofK (nx6) (by intro k hk; simp [hk]))
  have hz3 := hs16.size
  have hbk_hf := hf.bk
  refine LR.nil ?_
  refine hK3 _ _ ?_
  obtain ⟨nbB, sbB, kcB, svB, nmB, smB, hdB⟩ := hf.dirs _ db hdb
  have hll2 : (D.chgs p).length ≤ D.log.length := List.length_filter_le _ _
  have hop : Mo (Ms [(db + 1), kcB]) H16 H16 := Mo.refl _ _
  have km7 : KM K9 (db + 1) := (hf.km1 hdB.rd (by simp))
  have vd := hdB.vd
  have hlt_vd := vd.lt
  have dj8 : Dj (H0.size + 1) (db + 1) := DL.at (dj5) km7
  have nx9 : MI K H0.size (db + 1) := MIL.at (MIL.ofK (nx6) (by intro k hk; simp [hk])) km7
  have nx10 := Nx.refl (db + 1) H16.size
  have km11 : KM K9 kcB := (hf.km hdB.rc (by simp))
  have hc := (show Ow kcB 96 _ (fC g9.fb) 3 svB.v (D.chgs p) from hdB.hc)
  have hle_hc := hc.le
  have dj12 : Dj (H0.size + 1) kcB := DL.at (dj5) km11
  have nx13 : MI K H0.size kcB := MIL.at (MIL.ofK (nx6) (by intro k hk; simp [hk])) km11
  have nx14 := Nx.refl kcB H16.size
  have dj15 : Dj (db + 1) kcB := fun x h1 h2 => by have h3 := hdB.rc x h2; rw [show x = db by omega, hdB.rd] at h3; cases h3
  refine CW.region_any (fun Hq => Mo (Ms [kcB]) H16 Hq) [8, 9, 10] rfl ?_
  have hq3 : Mo (Ms [kcB]) H16 H16 := Mo.refl _ _
  have nx16 := Nx.refl kcB H16.size
  refine LH.take 0 (by kernel_rfl) rfl (by kernel_rfl) (by kernel_rfl) (by kernel_rfl) (fun Hq hq => Y.move rfl rfl) (Wd.u rfl) rfl rfl hq3 ?_
  refine LH.take 1 (by kernel_rfl) rfl (by kernel_rfl) (by kernel_rfl) (by kernel_rfl) (fun Hq hq => Y.move rfl rfl) (Wd.u rfl) rfl rfl hq3 ?_
  refine LH.take 2 (by kernel_rfl) rfl (by kernel_rfl) (by kernel_rfl) (by kernel_rfl) (fun Hq hq => Y.nilCheck rfl rfl) (Wd.u rfl) rfl rfl hq3 ?_
  refine LH.take 3 (by kernel_rfl) rfl (by kernel_rfl) (by kernel_rfl) (by kernel_rfl) (fun Hq hq => Y.fieldAddr (vd.upL hq (DL.cons dj15 DL.nil)).pt rfl Tryd.runUnderlying84 rfl rfl Tryd.sizeOf82 (by decide) rfl) (Wd.u rfl) rfl rfl hq3 ?_
  refine LH.take 4 (by kernel_rfl) rfl (by kernel_rfl) (by kernel_rfl) (by kernel_rfl) (fun Hq hq => Y.load1 ((vd.upL hq (DL.cons dj15 DL.nil)).pt.drop 2) rfl Tryd.isAgg82 rfl) (Wd.u rfl) rfl rfl hq3 ?_
  refine LH.take 5 (by kernel_rfl) rfl (by kernel_rfl) (by kernel_rfl) (by kernel_rfl) (fun Hq hq => Y.loadN (vc.upL hq (DL.cons dj12 DL.nil)).pt rfl Tryd.isAgg96 Tryd.sizeOf96 (rfl) rfl) (Wd.u rfl) rfl rfl hq3 ?_
  refine LH.one (i := 6) (by kernel_rfl) ?_
  refine LO.z rfl (Z.litw _ ([c]) rfl inf82 rfl rfl rfl (by decide) (by decide) (fC_len _) (fC_one _) (rfl)) (Wd.u rfl) rfl rfl (fun v23 H23 r23 => ?_)
  obtain ⟨ow23, hs23, ob23, hH23⟩ := r23
  have hzs23 : H23.size = H16.size + 1 := by rw [hH23]; simp
  have dj17 : Dj (H0.size + 1) (H16.size + 1) := Dj.new vc.lt
  have dj18 : Dj (db + 1) (H16.size + 1) := Dj.new vd.lt
  have dj19 : Dj kcB (H16.size + 1) := Dj.new hc.le
  have nx20 : Nx 0 H0.size (H16.size + 1) := Nx.new hm0.size
  have nx21 : Nx 0 H16.size (H16.size + 1) := Nx.new hop.size
  have nx22 : Nx 0 H16.size (H16.size + 1) := Nx.new hq3.size
  replace vc := vc.nw hs23
  replace vd := vd.nw hs23
  replace hc := hc.nw hs23
  replace hm0 := hm0.trN hs23
  replace hop := hop.trN hs23
  replace hq3 := hq3.trN hs23
  have hz4 := hs23.size
  refine ⟨.inr hq3, LH.narrow (SH2 := fun Hq => Mo (Ms [kcB, (H16.size + 1)]) H23 Hq) (fun Hq hq => hq3.trL hq (MIL.cons (MI.app (MI.root (by simp)) (nx16) (Nat.le_refl _)) (MIL.cons (MI.app MI.z (nx22) (Nat.le_refl _)) MIL.nil))) ?_⟩
  have hq3 : Mo (Ms [kcB, (H16.size + 1)]) H23 H23 := Mo.refl _ _
  have nx23 := Nx.refl kcB H23.size
  have nx24 := Nx.refl (H16.size + 1) H23.size
  refine LH.one (i := 7) (by kernel_rfl) ?_
  refine LO.z rfl (Z.apnd hc ow23.rd rfl inf82 rfl rfl (by first | omega | (simp; omega)) (by first | omega | (simp; omega))) (Wd.u rfl) rfl rfl (fun v24 H24 r24 => ?_)
  obtain ⟨kc2, hc, hk24, hs24⟩ := r24
  replace hk24 : Nx kcB H23.size kc2 := hk24
  replace hs24 := hs24.md
  have dj25 : Dj (H0.size + 1) kc2 := Dj.app (dj12) vc.lt hk24
  have dj26 : Dj (db + 1) kc2 := Dj.app (dj15) vd.lt hk24
  have dj27 : Dj (H16.size + 1) kc2 := Dj.app (dj19.symm) ow23.le hk24
  have nx28 : MI K H0.size kc2 := MI.app (nx13) hk24 hm0.size
  have nx29 : Nx kcB H16.size kc2 := Nx.tr (nx14) hk24 hop.size
  have nx30 : Nx kcB H23.size kc2 := Nx.tr (nx23) hk24 hq3.size
  replace vc := vc.upL hs24 (DL.cons dj12 DL.nil)
  replace vd := vd.upL hs24 (DL.cons dj15 DL.nil)
  replace ow23 := ow23.upL hs24 (DL.cons dj19.symm DL.nil)
  replace hm0 := hm0.trL hs24 (MIL.cons (nx13) MIL.nil)
  replace hop := hop.trL hs24 (MIL.cons (MI.app (MI.root (by simp)) (nx14) (Nat.le_refl _)) MIL.nil)
  replace hq3 := hq3.trL hs24 (MIL.cons (MI.app (MI.root (by simp)) (nx23) (Nat.le_refl _)) MIL.nil)
  have hz5 := hs24.size
  have hle_hc := hc.le
  refine ⟨.inr hq3, LH.narrow (SH2 := fun Hq => Mo (Ms [kc2, (H16.size + 1)]) H24 Hq) (fun Hq hq => hq3.trL hq (MIL.cons (MI.app (MI.root (by simp)) (nx30) (Nat.le_refl _)) (MIL.cons (MI.app (MI.root (by simp)) (nx24) (Nat.le_refl _)) MIL.nil))) ?_⟩
  have hq3 : Mo (Ms [kc2, (H16.size + 1)]) H24 H24 := Mo.refl _ _
  have nx31 := Nx.refl kc2 H24.size
  have nx32 := Nx.refl (H16.size + 1) H24.size
  refine LH.one (i := 8) (by kernel_rfl) ?_
  refine LO.v rfl (Y.nilCheck rfl rfl) (Wd.u rfl) rfl rfl (.inl rfl) ?_
  refine LH.one (i := 9) (by kernel_rfl) ?_
  refine LO.v rfl (Y.fieldAddr vd.pt rfl Tryd.runUnderlying84 rfl rfl Tryd.sizeOf82 (by decide) rfl) (Wd.u rfl) rfl rfl (.inl rfl) ?_
  refine LH.one (i := 10) (by kernel_rfl) ?_
  refine LO.s rfl (S.var1 vd 2 ([.map (some nbB), .map (some sbB), v24]) rfl rfl rfl (hc.rd.oneCell) Tryd.sizeOf82 (by simp) (rfl)) (Wd.u rfl) rfl (fun H3_10 r3_10 => ?_)
  obtain ⟨vd, hs3_10⟩ := r3_10
  replace hs3_10 := hs3_10.md1
  replace vc := vc.upL hs3_10 (DL.cons dj8 DL.nil)
  replace hc := hc.upL hs3_10 (DL.cons dj26.symm DL.nil)
  replace ow23 := ow23.upL hs3_10 (DL.cons dj18.symm DL.nil)
  replace hm0 := hm0.trL hs3_10 (MIL.cons (nx9) MIL.nil)
  replace hop := hop.trL hs3_10 (MIL.cons (MI.app (MI.root (by simp)) (nx10) (Nat.le_refl _)) MIL.nil)
  -- LOST hq3
  have hz6 := hs3_10.size
  refine ⟨.inl rfl, ?_⟩
  refine LH.done (by kernel_rfl) ?_
  obtain ⟨sv2, rfl⟩ : ∃ s : SV, v24 = s.v := ⟨toSV v24, hc.sv.symm⟩
  have dj33 : DL (H0.size + 1) (kc2 :: K9) := (DL.cons (dj25) (dj5))
  have nx34 : NxK K H0.size (kc2 :: K9) := (NxK.app (nx6) (km11) (nx29) (by omega))
  replace hf := hf.note hdb hdB hop vd hc (nx29) hcd (fun i hi => (hcn i hi).2)
  have hbk_hf := hf.bk
  refine hret .normal (.inl rfl) _ _ _ (res0 rfl) ?_
  exact ⟨_, _, rfl, hf, nx34, hg9, hm0⟩

end Go.Proofs.YtfbfjhppppoilaaDoor.SimG
