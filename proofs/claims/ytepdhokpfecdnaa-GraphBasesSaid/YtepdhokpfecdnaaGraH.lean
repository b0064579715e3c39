/-
  Commits in their order.
-/
import Derived.Test.YtepdhokpfecdnaaGraG
namespace Go.Proofs.Ytepdhokpfecdnaa.GraH
open Go.Proofs.Ytepdhokpfecdnaa.E Go.RowKit Go.Proofs.Ytepdhokpfecdnaa.GraA Go.Proofs.Ytepdhokpfecdnaa.GraB Go.Proofs.Ytepdhokpfecdnaa.GraC Go.Proofs.Ytepdhokpfecdnaa.GraD Go.Proofs.Ytepdhokpfecdnaa.GraE Go.Proofs.Ytepdhokpfecdnaa.GraF Go.Proofs.Ytepdhokpfecdnaa.GraG
set_option maxRecDepth 20000
set_option linter.unusedVariables false
set_option linter.unusedSimpArgs false
set_option linter.unusedSectionVars false
set_option maxRecDepth 100000 in
theorem inf28 : Inf Try.prog 28 30 32 32 := ⟨Try.underlying28, _, _, rfl, rfl, rfl, rfl, rfl⟩

theorem ment_old {κ β : Type} [DecidableEq κ] {m : List (κ × β)} {k : κ} {z : β} (h : (mget m k).isSome = true) : ment m k z = m := if_pos h
theorem Qr.of72 {k : Nat} {H : Heap} {v v2 : Value} {l : List Ide} {F : Nat → Prop} (h : Qr k H fA 32 v l) {i : Ide} {r : List Ide} (e : l = i :: r) (h2 : Rd (fun b => b + 1 = k) H fA 32 v2 ((l.take l.length).drop 1)) : Qr k H fA 32 v2 r := by
  subst e
  rw [List.take_length] at h2
  exact ⟨h2, h.le⟩

set_option maxHeartbeats 8000000 in
theorem order_ct (F : Nat → Prop) (vc : Value) (m : List (Ide × Value)) (pa : Ide → List Ide) (sb : Nat) (mm : List (Ide × Int)) (rk : Ide → Nat) (w0 : World) (H0 : Heap)
    (hc : Cm F H0 vc m pa) (bf_hc : BF F H0.size) (hco : Cok m pa) (hso : Mp H0 vA (Value.int .i64) sb mm) (hmm : mm.length ≤ 5000) (hac : ∀ k, ∀ p ∈ pa k, rk p < rk k) :
    Ct Try.prog w0 29 #[vc, .map (some sb)] H0 (fun r H2 => ∃ s : SV, ∃ k : Nat, ∃ out : List Ide, r = s.v ∧ (Ow k 30 H2 fA 32 s.v out) ∧ (Nx 0 H0.size k) ∧ (Topo pa (mm.map (·.1)) out) ∧ Nw H0 H2) := by
  refine Ct.enter (args := [vc, .map (some sb)]) Try.func29 rfl rfl rfl ?_
  intro Q0 hret
  have hm0 : Nw H0 H0 := Mo.refl _ _
  have nx_hm0_hso := Nx.refl (sb + 1) H0.size
  have hlt_hso := hso.lt
  refine CW.seq (fun K1 hK1 hE1 => ?_)
  refine CW.region ?_
  refine LR.v (Y.assign rfl rfl) (Wd.u rfl) rfl rfl ?_
  refine LR.nil ?_
  refine hK1 _ _ ?_
  refine CW.seq (fun K2 hK2 hE2 => ?_)
  refine CW.region ?_
  refine LR.z (Z.makeMp vA (Value.int .i64) rfl) (Wd.u rfl) rfl rfl (fun v20 H20 r20 => ?_)
  obtain ⟨rfl, hL, hs20, ob20, hH20⟩ := r20
  have hzs20 : H20.size = H0.size + 1 := by rw [hH20]; simp
  have df1 := (DF.new (bf_hc.mono hm0.size) : DF _ (H0.size + 1))
  have dj2 : Dj (sb + 1) (H0.size + 1) := Dj.new hso.lt
  have nx3 : Nx 0 H0.size (H0.size + 1) := Nx.new hm0.size
  replace hc := hc.nw hs20
  replace hso := hso.nw hs20
  replace hm0 := hm0.tr hs20
  have hz1 := hs20.size
  have hlt_hL := hL.lt
  refine LR.v (Y.assign rfl rfl) (Wd.u rfl) rfl rfl ?_
  refine LR.nil ?_
  refine hK2 _ _ ?_
  refine CW.seq (fun K3 hK3 hE3 => ?_)
  refine CW.region ?_
  refine LR.z (Z.makeMp vA (id : Value → Value) rfl) (Wd.u rfl) rfl rfl (fun v21 H21 r21 => ?_)
  obtain ⟨rfl, hM, hs21, ob21, hH21⟩ := r21
  have hzs21 : H21.size = H20.size + 1 := by rw [hH21]; simp
  have df4 := (DF.new (bf_hc.mono hm0.size) : DF _ (H20.size + 1))
  have dj5 : Dj (sb + 1) (H20.size + 1) := Dj.new hso.lt
  have dj6 : Dj (H0.size + 1) (H20.size + 1) := Dj.new hL.lt
  have nx7 : Nx 0 H0.size (H20.size + 1) := Nx.new hm0.size
  replace hc := hc.nw hs21
  replace hso := hso.nw hs21
  replace hL := hL.nw hs21
  replace hm0 := hm0.tr hs21
  have hz2 := hs21.size
  have hlt_hM := hM.lt
  refine LR.v (Y.assign rfl rfl) (Wd.u rfl) rfl rfl ?_
  refine LR.nil ?_
  refine hK3 _ _ ?_
  refine CW.seq (fun K4 hK4 hE4 => ?_)
  refine CW.region ?_
  refine LR.v (Y.assign rfl rfl) (Wd.u rfl) rfl rfl ?_
  refine LR.v (Y.assign rfl rfl) (Wd.u rfl) rfl rfl ?_
  refine LR.nil ?_
  refine hK4 _ _ ?_
  refine CW.seq (fun K5 hK5 hE5 => ?_)
  refine CW.seq (fun K6 hK6 hE6 => ?_)
  refine CW.region ?_
  refine LR.v (Y.move rfl rfl) (Wd.u rfl) rfl rfl ?_
  obtain ⟨es, ck, hso⟩ := hso.raw
  refine LR.z (Z.rangeA hso rfl Try.runUnderlying72 rfl) (Wd.u rfl) rfl rfl (fun v23 H23 r23 => ?_)
  obtain ⟨rfl, it, hs23, ob23, hH23⟩ := r23
  have hzs23 : H23.size = H21.size + 1 := by rw [hH23]; simp
  have df8 := (DF.new (bf_hc.mono hm0.size) : DF _ (H21.size + 1))
  have dj9 : Dj (sb + 1) (H21.size + 1) := Dj.new hso.lt
  have dj10 : Dj (H0.size + 1) (H21.size + 1) := Dj.new hL.lt
  have dj11 : Dj (H20.size + 1) (H21.size + 1) := Dj.new hM.lt
  have nx12 : Nx 0 H0.size (H21.size + 1) := Nx.new hm0.size
  replace hc := hc.nw hs23
  replace hso := hso.nw hs23
  replace hL := hL.nw hs23
  replace hM := hM.nw hs23
  replace hm0 := hm0.tr hs23
  have hz3 := hs23.size
  have hlt_it := it.lt
  refine LR.nil ?_
  refine hK6 _ _ ?_
  refine CW.block (fun K7 hK7 hX7 hE7 => ?_)
  refine CW.loop (fun (s_ : (List Ide) × (List (Ide × Int)) × (List (Ide × Value)) × (SV) × (Nat) × (List Ide) × (Ide → List Ide) × (Nat → Prop)) => match s_ with | (dn, L, mc, o, kr, rd, ch, G) => [(0, vc), (1, .map (some sb)), (5, .map (some H0.size)), (6, .map (some H20.size)), (7, o.v), (8, .slice none 0 0), (23, .pointer (some ⟨H21.size, 0, none⟩))])
    (fun (s_ : (List Ide) × (List (Ide × Int)) × (List (Ide × Value)) × (SV) × (Nat) × (List Ide) × (Ide → List Ide) × (Nat → Prop)) (H : Heap) => match s_ with | (dn, L, mc, o, kr, rd, ch, G) => (Itr H H21.size sb vA es ck (dn)) ∧ (Mp H vA (Value.int .i64) H0.size L) ∧ (Mp H vA (id : Value → Value) H20.size mc) ∧ (Ow kr 30 H fA 32 o.v rd) ∧ (∀ u : Unit, Fam G 30 H fA 32 (vOf mc) ch) ∧ (BF G H.size) ∧ (DF G (H21.size + 1)) ∧ (DF G (H0.size + 1)) ∧ (DF G (H20.size + 1)) ∧ (DF G (kr)) ∧ (∀ b, G b → H0.size ≤ b) ∧ (P1 pa (mm.map (·.1)) dn L rd ch) ∧ (Nx 0 H23.size kr) ∧ (Dj (H21.size + 1) kr) ∧ (Dj (H0.size + 1) kr) ∧ (Dj (H20.size + 1) kr) ∧ Mo (fun c => H0.size ≤ c) H23 H)
    (fun (s_ : (List Ide) × (List (Ide × Int)) × (List (Ide × Value)) × (SV) × (Nat) × (List Ide) × (Ide → List Ide) × (Nat → Prop)) => match s_ with | (dn, L, mc, o, kr, rd, ch, G) => mm.length - dn.length) ([], [], [], ⟨none, 0, 0⟩, 0, [], fun _ => [], fun _ => False) ⟨rfl, rfl, rfl, rfl, rfl, rfl, rfl, trivial⟩ ?_ ?_
  ·
    exact ⟨it, hL, hM, Ow.nil fA_len fA_one, (fun u => Fam.none fA_len fA_one), (fun b e => e.elim), (fun b e => e.elim), (fun b e => e.elim), (fun b e => e.elim), (fun b e => e.elim), (fun b e => e.elim), P1.start _ _, Nx.refl _ _, Dj.z, Dj.z, Dj.z, Mo.refl _ _⟩
  rintro ⟨dn, L, mc, o, kr, rd, ch, G⟩ HL1 hI1 K8 hN8 hE8
  obtain ⟨it, hL, hM, ow, fam, bf_fam, fgit, fghL, fghM, fgow, hG, hP, nxl_ow, dj_it_ow, dj_hL_ow, dj_hM_ow, hlm1⟩ := hI1
  have df13 := DF.app (DF.z) (bf_hc.mono hm0.size) nxl_ow
  have dj14 : Dj (sb + 1) kr := Dj.app (Dj.z) hso.lt nxl_ow
  have nx15 : Nx 0 H0.size kr := Nx.tr (Nx.refl 0 _) nxl_ow hm0.size
  replace hc := hc.upA hlm1 bf_hc
  replace hso := hso.upA hlm1 hlt_hso
  replace hm0 := hm0.trA hlm1 (Nat.le_refl _)
  have hz4 := hlm1.size
  have hle_ow := ow.le
  have dj16 := dj_it_ow
  have dj17 := dj_hL_ow
  have dj18 := dj_hM_ow
  have nx_hlm1_it := Nx.refl (H21.size + 1) H23.size
  have nx_hlm1_hL := Nx.refl (H0.size + 1) H23.size
  have nx_hlm1_hM := Nx.refl (H20.size + 1) H23.size
  have nx19 := nxl_ow
  have hdl := hP.dlen
  rw [List.length_map] at hdl
  refine CW.seq (fun K9 hK9 hE9 => ?_)
  refine CW.region ?_
  refine LR.z (Z.nextA it hso keyId.inj rfl rfl) (Wd.u rfl) rfl rfl (fun v24 H24 r24 => ?_)
  obtain ⟨qb, x, y, dn2, rfl, it, hT24, hF24, hs24⟩ := r24
  replace hs24 := hs24.md1
  replace hc := hc.upL hs24 (DFL.cons df8 DFL.nil)
  replace hso := hso.upL hs24 (DL.cons dj9 DL.nil)
  replace hL := hL.upL hs24 (DL.cons dj10 DL.nil)
  replace hM := hM.upL hs24 (DL.cons dj11 DL.nil)
  replace ow := ow.upL hs24 (DL.cons dj16.symm DL.nil)
  replace fam := fun u => (fam u).upL hs24 (DFL.cons fgit DFL.nil)
  replace hm0 := (Mo.trL (ks := []) (hm0.mdn []) hs24 (MIL.cons (MI.app MI.z (nx12) (Nat.le_refl _)) MIL.nil)).nil
  replace hlm1 := Mo.trB hlm1 hs24 (BL.cons (nx12) BL.nil)
  have hz5 := hs24.size
  refine LR.v (Y.ext0 rfl rfl) (Wd.u rfl) rfl rfl ?_
  refine LR.nil ?_
  refine hK9 _ _ ?_
  refine CW.seq (fun K10 hK10 hE10 => ?_)
  refine CW.cond rfl (fun c25 => ?_) (fun c25 => ?_)
  ·
    obtain ⟨hxy, hnd, hdn2⟩ := hT24 c25
    rw [hdn2] at it
    have hxK : x ∈ mm.map (·.1) := List.mem_map.2 ⟨_, hxy, rfl⟩
    refine CW.skip ?_
    refine hK10 _ _ ?_
    refine CW.block (fun K11 hK11 hX11 hE11 => ?_)
    refine CW.seq (fun K12 hK12 hE12 => ?_)
    refine CW.region ?_
    refine LR.v (Y.entryA it hso keyId.inj hxy rfl rfl) (Wd.u rfl) rfl rfl ?_
    refine LR.v (Y.extract rfl rfl rfl) (Wd.u rfl) rfl rfl ?_
    refine LR.z (Z.allocv rfl Try.zeroValue30) (Wd.u rfl) rfl rfl (fun v9 H9 r9 => ?_)
    obtain ⟨rfl, vi, hs9, ob9, hH9⟩ := r9
    have hzs9 : H9.size = H24.size + 1 := by rw [hH9]; simp
    have df20 := (DF.new (bf_hc.mono hm0.size) : DF _ (H24.size + 1))
    have dj21 : Dj (sb + 1) (H24.size + 1) := Dj.new hso.lt
    have dj22 : Dj (H21.size + 1) (H24.size + 1) := Dj.new it.lt
    have dj23 : Dj (H0.size + 1) (H24.size + 1) := Dj.new hL.lt
    have dj24 : Dj (H20.size + 1) (H24.size + 1) := Dj.new hM.lt
    have dj25 : Dj kr (H24.size + 1) := Dj.new ow.le
    have df26 := (DF.new (bf_fam.mono (by omega)) : DF _ (H24.size + 1))
    have nx27 : Nx 0 H0.size (H24.size + 1) := Nx.new hm0.size
    have nx28 : Nx 0 H23.size (H24.size + 1) := Nx.new hlm1.size
    replace hc := hc.nw hs9
    replace hso := hso.nw hs9
    replace it := it.nw hs9
    replace hL := hL.nw hs9
    replace hM := hM.nw hs9
    replace ow := ow.nw hs9
    replace fam := fun u => (fam u).nw hs9
    replace hm0 := hm0.tr hs9
    replace hlm1 := Mo.trBN hlm1 hs9
    have hz6 := hs9.size
    replace vi : Var 30 H9 H24.size (fA Zid) := vi
    refine LR.s (S.var vi (_) (fA (x)) rfl rfl rfl rfl (fA_one _) Try.sizeOf30 (fA_len _) (by first | decide | simp [fA_len]) ((splice_all2 (by first | exact (fA_len _).symm | rfl | exact (fA_len _).trans (fA_len _).symm)))) (Wd.u rfl) rfl (fun H6_3 r6_3 => ?_)
    obtain ⟨vi, hs6_3⟩ := r6_3
    replace hs6_3 := hs6_3.md1
    replace hc := hc.upL hs6_3 (DFL.cons df20 DFL.nil)
    replace hso := hso.upL hs6_3 (DL.cons dj21 DL.nil)
    replace it := it.upL hs6_3 (DL.cons dj22 DL.nil)
    replace hL := hL.upL hs6_3 (DL.cons dj23 DL.nil)
    replace hM := hM.upL hs6_3 (DL.cons dj24 DL.nil)
    replace ow := ow.upL hs6_3 (DL.cons dj25 DL.nil)
    replace fam := fun u => (fam u).upL hs6_3 (DFL.cons df26 DFL.nil)
    replace hm0 := (Mo.trL (ks := []) (hm0.mdn []) hs6_3 (MIL.cons (MI.app MI.z (nx27) (Nat.le_refl _)) MIL.nil)).nil
    replace hlm1 := Mo.trB hlm1 hs6_3 (BL.cons (nx27) BL.nil)
    have hz7 := hs6_3.size
    refine LR.nil ?_
    refine hK12 _ _ ?_
    refine CW.seq (fun K13 hK13 hE13 => ?_)
    refine CW.region ?_
    refine LR.v (Y.assign rfl rfl) (Wd.u rfl) rfl rfl ?_
    refine LR.nil ?_
    refine hK13 _ _ ?_
    refine CW.seq (fun K14 hK14 hE14 => ?_)
    refine CW.seq (fun K15 hK15 hE15 => ?_)
    refine CW.region ?_
    refine LR.v (Y.move rfl rfl) (Wd.u rfl) rfl rfl ?_
    refine LR.v (Y.loadN vi.pt rfl Try.isAgg30 Try.sizeOf30 (fA_len _) rfl) (Wd.u rfl) rfl rfl ?_
    refine LR.v (Y.lookupA hc.mo keyId rfl Try.runUnderlying69 Try.zeroValue28 rfl rfl) (Wd.u rfl) rfl rfl ?_
    refine LR.v (Y.len (hc.row x) rfl Try.runUnderlying28 rfl) (Wd.u rfl) rfl rfl ?_
    refine LR.v (Y.move rfl rfl) (Wd.u rfl) rfl rfl ?_
    refine LR.nil ?_
    refine hK15 _ _ ?_
    refine CW.block (fun K16 hK16 hX16 hE16 => ?_)
    refine CW.loop (fun (s_ : (Nat) × (Nat) × (List (Ide × Value)) × (Ide → List Ide) × (Nat → Prop)) => match s_ with | (q, cn, mc2, ch2, G2) => [(0, vc), (1, .map (some sb)), (5, .map (some H0.size)), (6, .map (some H20.size)), (7, o.v), (8, .slice none 0 0), (9, .pointer (some ⟨H24.size, 0, none⟩)), (10, .int .i64 (cn : Int)), (23, .pointer (some ⟨H21.size, 0, none⟩)), (30, (id ((mget m x).getD nilS) : Value)), (31, .int .i64 ((pa x).length : Int)), (32, .int .i64 (q : Int))])
      (fun (s_ : (Nat) × (Nat) × (List (Ide × Value)) × (Ide → List Ide) × (Nat → Prop)) (H : Heap) => match s_ with | (q, cn, mc2, ch2, G2) => (Itr H H21.size sb vA es ck (dn ++ [x])) ∧ (Mp H vA (Value.int .i64) H0.size L) ∧ (Mp H vA (id : Value → Value) H20.size mc2) ∧ (Ow kr 30 H fA 32 o.v rd) ∧ (Var 30 H H24.size (fA x)) ∧ (∀ u : Unit, Fam G2 30 H fA 32 (vOf mc2) ch2) ∧ (BF G2 H.size) ∧ (DF G2 (H21.size + 1)) ∧ (DF G2 (H0.size + 1)) ∧ (DF G2 (H20.size + 1)) ∧ (DF G2 (kr)) ∧ (DF G2 (H24.size + 1)) ∧ (∀ b, G2 b → H0.size ≤ b) ∧ (q ≤ (pa x).length) ∧ (P1b pa (mm.map (·.1)) dn x q cn ch2) ∧ (Nx kr H6_3.size kr) ∧ (Dj (H21.size + 1) kr) ∧ (Dj (H0.size + 1) kr) ∧ (Dj (H20.size + 1) kr) ∧ (Dj kr (H24.size + 1)) ∧ Mo (fun c => H0.size ≤ c) H6_3 H)
      (fun (s_ : (Nat) × (Nat) × (List (Ide × Value)) × (Ide → List Ide) × (Nat → Prop)) => match s_ with | (q, cn, mc2, ch2, G2) => (pa x).length - q) (0, 0, mc, ch, G) ⟨rfl, rfl, rfl, rfl, rfl, rfl, rfl, rfl, rfl, rfl, rfl, rfl, trivial⟩ ?_ ?_
    ·
      exact ⟨it, hL, hM, ow, vi, fam, (bf_fam.mono (by omega)), (fgit), (fghL), (fghM), (fgow), (df26), hG, (by omega), P1b.start hP hnd, Nx.refl _ _, dj16, dj17, dj18, dj25, Mo.refl _ _⟩
    rintro ⟨q, cn, mc2, ch2, G2⟩ HL2 hI2 K17 hN17 hE17
    obtain ⟨it, hL, hM, ow, vi, fam2, bf_fam2, fg2it, fg2hL, fg2hM, fg2ow, fg2vi, hG2, hq, hP2, nxl_ow, dj_it_ow, dj_hL_ow, dj_hM_ow, dj_ow_vi, hlm2⟩ := hI2
    have df29 := DF.app (df13) (bf_hc.mono hm0.size) nxl_ow
    have dj30 : Dj (sb + 1) kr := Dj.app (dj14) hso.lt nxl_ow
    have df31 := DF.app (fgow) (bf_fam.mono (by omega)) nxl_ow
    have nx32 : Nx 0 H0.size kr := Nx.tr (nx15) nxl_ow hm0.size
    have nx33 : Nx 0 H23.size kr := Nx.tr (nx19) nxl_ow hlm1.size
    replace hc := hc.upA hlm2 bf_hc
    replace hso := hso.upA hlm2 hlt_hso
    -- LOST fam
    replace hm0 := hm0.trA hlm2 (Nat.le_refl _)
    replace hlm1 := Mo.trBB hlm1 hlm2
    have hz8 := hlm2.size
    have hle_ow := ow.le
    have dj34 := dj_it_ow
    have dj35 := dj_hL_ow
    have dj36 := dj_hM_ow
    have dj37 := dj_ow_vi
    have nx_hlm2_it := Nx.refl (H21.size + 1) H6_3.size
    have nx_hlm2_hL := Nx.refl (H0.size + 1) H6_3.size
    have nx_hlm2_hM := Nx.refl (H20.size + 1) H6_3.size
    have nx38 := nxl_ow
    have nx_hlm2_vi := Nx.refl (H24.size + 1) H6_3.size
    have hcl := hP2.chl
    have hpl := hco.pl x
    have hcnl : cn ≤ q := by rw [hP2.cn_]; exact Nat.le_trans (cntI_le _ _ _) (by simp; omega)
    refine CW.seq (fun K18 hK18 hE18 => ?_)
    refine CW.region ?_
    refine LR.v (Y.lss rfl rfl rfl) (Wd.u rfl) rfl rfl ?_
    refine LR.nil ?_
    refine hK18 _ _ ?_
    refine CW.seq (fun K19 hK19 hE19 => ?_)
    refine CW.condp rfl (fun c33 => ?_) (fun c33 => ?_)
    ·
      refine CW.skip ?_
      refine hK19 _ _ ?_
      refine CW.seq (fun K20 hK20 hE20 => ?_)
      refine CW.block (fun K21 hK21 hX21 hE21 => ?_)
      refine CW.seq (fun K22 hK22 hE22 => ?_)
      refine CW.region ?_
      refine LR.e (g := fun ad => .pointer (some ad)) (Y.indexAddrF (hc.row x) (q) rfl Try.runUnderlying28 Try.sizeOf30 rfl rfl (by first | rfl | omega) (by omega)) (Wd.u rfl) rfl rfl (fun ad34 pt34 => ?_)
      have bf_pt34 := bf_hc
      refine LR.v (Y.loadN pt34.pt rfl Try.isAgg30 Try.sizeOf30 (fA_len _) rfl) (Wd.u rfl) rfl rfl ?_
      refine LR.z (Z.allocv rfl Try.zeroValue30) (Wd.u rfl) rfl rfl (fun v12 H12 r12 => ?_)
      obtain ⟨rfl, vj, hs12, ob12, hH12⟩ := r12
      have hzs12 : H12.size = HL2.size + 1 := by rw [hH12]; simp
      have df39 := (DF.new (bf_hc.mono hm0.size) : DF _ (HL2.size + 1))
      have dj40 : Dj (sb + 1) (HL2.size + 1) := Dj.new hso.lt
      have dj41 : Dj kr (HL2.size + 1) := Dj.new ow.le
      have dj42 : Dj (H21.size + 1) (HL2.size + 1) := Dj.new it.lt
      have dj43 : Dj (H0.size + 1) (HL2.size + 1) := Dj.new hL.lt
      have dj44 : Dj (H20.size + 1) (HL2.size + 1) := Dj.new hM.lt
      have dj45 : Dj (H24.size + 1) (HL2.size + 1) := Dj.new vi.lt
      have df46 := (DF.new (bf_fam2.mono (by omega)) : DF _ (HL2.size + 1))
      have df47 := (DF.new (bf_pt34.mono hm0.size) : DF _ (HL2.size + 1))
      have nx48 : Nx 0 H0.size (HL2.size + 1) := Nx.new hm0.size
      have nx49 : Nx 0 H23.size (HL2.size + 1) := Nx.new hlm1.size
      have nx50 : Nx 0 H6_3.size (HL2.size + 1) := Nx.new hlm2.size
      replace hc := hc.nw hs12
      replace hso := hso.nw hs12
      replace ow := ow.nw hs12
      replace it := it.nw hs12
      replace hL := hL.nw hs12
      replace hM := hM.nw hs12
      replace vi := vi.nw hs12
      replace fam2 := fun u => (fam2 u).nw hs12
      replace pt34 := pt34.nw hs12
      replace hm0 := hm0.tr hs12
      replace hlm1 := Mo.trBN hlm1 hs12
      replace hlm2 := Mo.trBN hlm2 hs12
      have hz9 := hs12.size
      replace vj : Var 30 H12 HL2.size (fA Zid) := vj
      refine LR.s (S.var vj (_) (fA ((pa x)[q])) rfl rfl rfl rfl (fA_one _) Try.sizeOf30 (fA_len _) (by first | decide | simp [fA_len]) ((splice_all2 (by first | exact (fA_len _).symm | rfl | exact (fA_len _).trans (fA_len _).symm)))) (Wd.u rfl) rfl (fun H10_3 r10_3 => ?_)
      obtain ⟨vj, hs10_3⟩ := r10_3
      replace hs10_3 := hs10_3.md1
      replace hc := hc.upL hs10_3 (DFL.cons df39 DFL.nil)
      replace hso := hso.upL hs10_3 (DL.cons dj40 DL.nil)
      replace ow := ow.upL hs10_3 (DL.cons dj41 DL.nil)
      replace it := it.upL hs10_3 (DL.cons dj42 DL.nil)
      replace hL := hL.upL hs10_3 (DL.cons dj43 DL.nil)
      replace hM := hM.upL hs10_3 (DL.cons dj44 DL.nil)
      replace vi := vi.upL hs10_3 (DL.cons dj45 DL.nil)
      replace fam2 := fun u => (fam2 u).upL hs10_3 (DFL.cons df46 DFL.nil)
      replace pt34 := pt34.upL hs10_3 (DFL.cons df47 DFL.nil)
      replace hm0 := (Mo.trL (ks := []) (hm0.mdn []) hs10_3 (MIL.cons (MI.app MI.z (nx48) (Nat.le_refl _)) MIL.nil)).nil
      replace hlm1 := Mo.trB hlm1 hs10_3 (BL.cons (nx48) BL.nil)
      replace hlm2 := Mo.trB hlm2 hs10_3 (BL.cons (nx48) BL.nil)
      have hz10 := hs10_3.size
      refine LR.nil ?_
      refine hK22 _ _ ?_
      refine CW.seq (fun K23 hK23 hE23 => ?_)
      refine CW.region ?_
      refine LR.v (Y.move rfl rfl) (Wd.u rfl) rfl rfl ?_
      refine LR.v (Y.loadN vj.pt rfl Try.isAgg30 Try.sizeOf30 (fA_len _) rfl) (Wd.u rfl) rfl rfl ?_
      refine LR.v (Y.lookupOkA hso.mo keyId rfl Try.runUnderlying72 Try.zeroValue3 rfl rfl) (Wd.u rfl) rfl rfl ?_
      refine LR.v (Y.move rfl rfl) (Wd.u rfl) rfl rfl ?_
      refine LR.v (Y.extract rfl rfl rfl) (Wd.u rfl) rfl rfl ?_
      refine LR.v (Y.extract rfl rfl rfl) (Wd.u rfl) rfl rfl ?_
      refine LR.v (Y.assign rfl rfl) (Wd.u rfl) rfl rfl ?_
      refine LR.v (Y.assign rfl rfl) (Wd.u rfl) rfl rfl ?_
      refine LR.nil ?_
      refine hK23 _ _ ?_
      refine CW.seq (fun K24 hK24 hE24 => ?_)
      refine CW.region ?_
      refine LR.v (Y.move rfl rfl) (Wd.u rfl) rfl rfl ?_
      refine LR.nil ?_
      refine hK24 _ _ ?_
      refine CW.cond rfl (fun c42 => ?_) (fun c42 => ?_)
      ·
        refine CW.seq (fun K25 hK25 hE25 => ?_)
        refine CW.region ?_
        refine LR.v (Y.move rfl rfl) (Wd.u rfl) rfl rfl ?_
        refine LR.v (Y.loadN vj.pt rfl Try.isAgg30 Try.sizeOf30 (fA_len _) rfl) (Wd.u rfl) rfl rfl ?_
        refine LR.v (Y.loadN vi.pt rfl Try.isAgg30 Try.sizeOf30 (fA_len _) rfl) (Wd.u rfl) rfl rfl ?_
        refine LR.z (Z.litw _ ([x]) rfl inf28 rfl rfl rfl (by decide) (by decide) fA_len fA_one (rfl)) (Wd.u rfl) rfl rfl (fun v47 H47 r47 => ?_)
        obtain ⟨ow47, hs47, ob47, hH47⟩ := r47
        have hzs47 : H47.size = H10_3.size + 1 := by rw [hH47]; simp
        have df51 := (DF.new (bf_hc.mono hm0.size) : DF _ (H10_3.size + 1))
        have dj52 : Dj (sb + 1) (H10_3.size + 1) := Dj.new hso.lt
        have dj53 : Dj kr (H10_3.size + 1) := Dj.new ow.le
        have dj54 : Dj (H21.size + 1) (H10_3.size + 1) := Dj.new it.lt
        have dj55 : Dj (H0.size + 1) (H10_3.size + 1) := Dj.new hL.lt
        have dj56 : Dj (H20.size + 1) (H10_3.size + 1) := Dj.new hM.lt
        have dj57 : Dj (H24.size + 1) (H10_3.size + 1) := Dj.new vi.lt
        have df58 := (DF.new (bf_fam2.mono (by omega)) : DF _ (H10_3.size + 1))
        have dj59 : Dj (HL2.size + 1) (H10_3.size + 1) := Dj.new vj.lt
        have nx60 : Nx 0 H0.size (H10_3.size + 1) := Nx.new hm0.size
        have nx61 : Nx 0 H23.size (H10_3.size + 1) := Nx.new hlm1.size
        have nx62 : Nx 0 H6_3.size (H10_3.size + 1) := Nx.new hlm2.size
        replace hc := hc.nw hs47
        replace hso := hso.nw hs47
        replace ow := ow.nw hs47
        replace it := it.nw hs47
        replace hL := hL.nw hs47
        replace hM := hM.nw hs47
        replace vi := vi.nw hs47
        replace fam2 := fun u => (fam2 u).nw hs47
        replace vj := vj.nw hs47
        replace hm0 := hm0.tr hs47
        replace hlm1 := Mo.trBN hlm1 hs47
        replace hlm2 := Mo.trBN hlm2 hs47
        have hz11 := hs47.size
        refine LR.z (Z.entA hM keyId rfl Try.runUnderlying69 Try.zeroValue28 rfl rfl) (Wd.u rfl) rfl rfl (fun v48 H48 r48 => ?_)
        obtain ⟨qe, rfl, hM, hs48⟩ := r48
        replace hs48 := hs48.md1
        replace hc := hc.upL hs48 (DFL.cons df4 DFL.nil)
        replace hso := hso.upL hs48 (DL.cons dj5 DL.nil)
        replace ow := ow.upL hs48 (DL.cons dj36.symm DL.nil)
        replace it := it.upL hs48 (DL.cons dj11.symm DL.nil)
        replace hL := hL.upL hs48 (DL.cons dj6 DL.nil)
        replace vi := vi.upL hs48 (DL.cons dj24.symm DL.nil)
        replace fam2 := fun u => (fam2 u).upL hs48 (DFL.cons fg2hM DFL.nil)
        replace vj := vj.upL hs48 (DL.cons dj44.symm DL.nil)
        replace ow47 := ow47.upL hs48 (DL.cons dj56.symm DL.nil)
        replace hm0 := (Mo.trL (ks := []) (hm0.mdn []) hs48 (MIL.cons (MI.app MI.z (nx7) (Nat.le_refl _)) MIL.nil)).nil
        replace hlm1 := Mo.trB hlm1 hs48 (BL.cons (nx7) BL.nil)
        replace hlm2 := Mo.trB hlm2 hs48 (BL.cons (nx7) BL.nil)
        have hz12 := hs48.size
        refine LR.v (Y.extract rfl rfl rfl) (Wd.u rfl) rfl rfl ?_
        have hcl1 := hcl (pa x)[q]
        obtain ⟨kk49, fo49, hkk49, reb49⟩ := (fam2 ()).at ((pa x)[q])
        have nx63 := Nx.fam hG2 hkk49
        have df64 := DF.nx (bf_hc) nx63
        have dj65 : Dj (sb + 1) kk49 := Dj.nx hlt_hso nx63
        have dj66 : Dj kr kk49 := Dj.fam (fg2ow) hkk49
        have dj67 : Dj (H21.size + 1) kk49 := Dj.fam (fg2it) hkk49
        have dj68 : Dj (H0.size + 1) kk49 := Dj.fam (fg2hL) hkk49
        have dj69 : Dj (H20.size + 1) kk49 := Dj.fam (fg2hM) hkk49
        have dj70 : Dj (H24.size + 1) kk49 := Dj.fam (fg2vi) hkk49
        have dj71 : Dj (HL2.size + 1) kk49 := Dj.fam (df46) hkk49
        have dj72 : Dj (H10_3.size + 1) kk49 := Dj.fam (df58) hkk49
        refine LR.z (Z.apnd fo49 ow47.rd rfl inf28 rfl rfl (by rw [List.length_singleton]; omega) (by rw [List.length_singleton]; omega)) (Wd.u rfl) rfl rfl (fun v49 H49 r49 => ?_)
        obtain ⟨k49, fo49, hk49, hs49⟩ := r49
        replace hk49 : Nx kk49 H48.size k49 := hk49
        replace hs49 := hs49.md
        have df73 := DF.app (df64) (bf_hc.mono hm0.size) hk49
        have dj74 : Dj (sb + 1) k49 := Dj.app (dj65) hso.lt hk49
        have dj75 : Dj kr k49 := Dj.app (dj66) ow.le hk49
        have dj76 : Dj (H21.size + 1) k49 := Dj.app (dj67) it.lt hk49
        have dj77 : Dj (H0.size + 1) k49 := Dj.app (dj68) hL.lt hk49
        have dj78 : Dj (H20.size + 1) k49 := Dj.app (dj69) hM.lt hk49
        have dj79 : Dj (H24.size + 1) k49 := Dj.app (dj70) vi.lt hk49
        have dj80 : Dj (HL2.size + 1) k49 := Dj.app (dj71) vj.lt hk49
        have dj81 : Dj (H10_3.size + 1) k49 := Dj.app (dj72) ow47.le hk49
        have nx82 : Nx 0 H0.size k49 := Nx.tr (nx63) hk49 hm0.size
        replace hc := hc.upL hs49 (DFL.cons df64 DFL.nil)
        replace hso := hso.upL hs49 (DL.cons dj65 DL.nil)
        replace ow := ow.upL hs49 (DL.cons dj66 DL.nil)
        replace it := it.upL hs49 (DL.cons dj67 DL.nil)
        replace hL := hL.upL hs49 (DL.cons dj68 DL.nil)
        replace hM := hM.upL hs49 (DL.cons dj69 DL.nil)
        replace vi := vi.upL hs49 (DL.cons dj70 DL.nil)
        replace vj := vj.upL hs49 (DL.cons dj71 DL.nil)
        replace ow47 := ow47.upL hs49 (DL.cons dj72 DL.nil)
        replace hm0 := (Mo.trL (ks := []) (hm0.mdn []) hs49 (MIL.cons (MI.app MI.z (nx63) (Nat.le_refl _)) MIL.nil)).nil
        replace hlm1 := Mo.trB hlm1 hs49 (BL.cons (nx63) BL.nil)
        replace hlm2 := Mo.trB hlm2 hs49 (BL.cons (nx63) BL.nil)
        have hz13 := hs49.size
        have hle_fo49 := fo49.le
        have fam2 := fun u : Unit => reb49 _ _ _ _ hs49 fo49 hk49
        replace bf_fam2 := BF.or1 (bf_fam2.mono (by omega)) fo49.le
        have df83 := DF.or1 (fg2it) (dj76)
        have df84 := DF.or1 (fg2hL) (dj77)
        have df85 := DF.or1 (fg2hM) (dj78)
        have df86 := DF.or1 (fg2ow) (dj75)
        have df87 := DF.or1 (fg2vi) (dj79)
        have df88 := DF.or1 (df46) (dj80)
        have df89 := DF.or1 (df58) (dj81)
        refine LR.v (Y.extract rfl rfl rfl) (Wd.u rfl) rfl rfl ?_
        refine LR.s (S.entA (v49) hM keyId.inj rfl rfl rfl rfl) (Wd.u rfl) rfl (fun H13_8 r13_8 => ?_)
        obtain ⟨hM, hs13_8⟩ := r13_8
        rw [ment_put] at hM
        replace hs13_8 := hs13_8.md1
        replace hc := hc.upL hs13_8 (DFL.cons df4 DFL.nil)
        replace hso := hso.upL hs13_8 (DL.cons dj5 DL.nil)
        replace ow := ow.upL hs13_8 (DL.cons dj36.symm DL.nil)
        replace it := it.upL hs13_8 (DL.cons dj11.symm DL.nil)
        replace hL := hL.upL hs13_8 (DL.cons dj6 DL.nil)
        replace vi := vi.upL hs13_8 (DL.cons dj24.symm DL.nil)
        replace vj := vj.upL hs13_8 (DL.cons dj44.symm DL.nil)
        replace ow47 := ow47.upL hs13_8 (DL.cons dj56.symm DL.nil)
        replace fo49 := fo49.upL hs13_8 (DL.cons dj78.symm DL.nil)
        replace fam2 := fun u => (fam2 u).upL hs13_8 (DFL.cons df85 DFL.nil)
        replace hm0 := (Mo.trL (ks := []) (hm0.mdn []) hs13_8 (MIL.cons (MI.app MI.z (nx7) (Nat.le_refl _)) MIL.nil)).nil
        replace hlm1 := Mo.trB hlm1 hs13_8 (BL.cons (nx7) BL.nil)
        replace hlm2 := Mo.trB hlm2 hs13_8 (BL.cons (nx7) BL.nil)
        have hz14 := hs13_8.size
        refine LR.nil ?_
        refine hK25 _ _ ?_
        refine CW.region ?_
        refine LR.v (Y.move rfl rfl) (Wd.u rfl) rfl rfl ?_
        refine LR.v (Y.addi rfl rfl rfl (by omega)) (Wd.u rfl) rfl rfl ?_
        refine LR.v (Y.assign rfl rfl) (Wd.u rfl) rfl rfl ?_
        refine LR.nil ?_
        refine hK21 _ _ ?_
        refine hK20 _ _ ?_
        refine CW.region ?_
        refine LR.v (Y.addi rfl rfl rfl (by omega)) (Wd.u rfl) rfl rfl ?_
        refine LR.v (Y.move rfl rfl) (Wd.u rfl) rfl rfl ?_
        refine LR.nil ?_
        refine QN.sub (hN17 (q + 1, cn + 1, mput mc2 ((pa x)[q]) v49, fun p => if p = (pa x)[q] then ch2 (pa x)[q] ++ [x] else ch2 p, fun b => G2 b ∨ b + 1 = k49) _ ?_ ?_) ⟨rfl, rfl, rfl, rfl, rfl, rfl, rfl, (iv (by omega)), rfl, rfl, (iv (by omega)), (iv (by omega)), trivial⟩
        · exact ⟨it, hL, hM, ow, vi, (fun u => by rw [vOf_put]; exact fam2 ()), (bf_fam2.mono (by omega)), df83, df84, df85, df86, df87, fun b e => e.elim (hG2 b) (fun e => by have := (nx82); unfold Nx at this; omega), (by omega), hP2.yes hnd (by omega) (isSome_iff_key.1 c42), nx38, dj34, dj35, dj36, dj37, hlm2⟩
        · first | omega | (simp only; omega) | (simp; omega)
      ·
        refine CW.skip ?_
        refine hK21 _ _ ?_
        refine hK20 _ _ ?_
        refine CW.region ?_
        refine LR.v (Y.addi rfl rfl rfl (by omega)) (Wd.u rfl) rfl rfl ?_
        refine LR.v (Y.move rfl rfl) (Wd.u rfl) rfl rfl ?_
        refine LR.nil ?_
        refine QN.sub (hN17 (q + 1, cn, mc2, ch2, G2) _ ?_ ?_) ⟨rfl, rfl, rfl, rfl, rfl, rfl, rfl, (iv (by omega)), rfl, rfl, (iv (by omega)), (iv (by omega)), trivial⟩
        · exact ⟨it, hL, hM, ow, vi, fam2, (bf_fam2.mono (by omega)), fg2it, fg2hL, fg2hM, fg2ow, fg2vi, hG2, (by omega), hP2.no (by omega) (fun h => by rw [isSome_iff_key.2 h] at c42; cases c42), nx38, dj34, dj35, dj36, dj37, hlm2⟩
        · first | omega | (simp only; omega) | (simp; omega)
    ·
      have hqe : q = (pa x).length := by omega
      subst hqe
      refine CW.exit (hE19 (.exit 2) nofun _ _ (hE17 (.exit 2) nofun _ _ (hX16 _ _ ?_)))
      refine hK14 _ _ ?_
      refine CW.seq (fun K26 hK26 hE26 => ?_)
      refine CW.region ?_
      refine LR.v (Y.move rfl rfl) (Wd.u rfl) rfl rfl ?_
      refine LR.v (Y.loadN vi.pt rfl Try.isAgg30 Try.sizeOf30 (fA_len _) rfl) (Wd.u rfl) rfl rfl ?_
      refine LR.v (Y.move rfl rfl) (Wd.u rfl) rfl rfl ?_
      refine LR.s (S.putA ((cn : Int)) hL keyId rfl Try.runUnderlying72 rfl rfl rfl) (Wd.u rfl) rfl (fun H16_3 r16_3 => ?_)
      obtain ⟨hL, hs16_3⟩ := r16_3
      replace hs16_3 := hs16_3.md1
      replace hc := hc.upL hs16_3 (DFL.cons df1 DFL.nil)
      replace hso := hso.upL hs16_3 (DL.cons dj2 DL.nil)
      replace ow := ow.upL hs16_3 (DL.cons dj35.symm DL.nil)
      replace it := it.upL hs16_3 (DL.cons dj10.symm DL.nil)
      replace hM := hM.upL hs16_3 (DL.cons dj6.symm DL.nil)
      replace vi := vi.upL hs16_3 (DL.cons dj23.symm DL.nil)
      replace fam2 := fun u => (fam2 u).upL hs16_3 (DFL.cons fg2hL DFL.nil)
      replace hm0 := (Mo.trL (ks := []) (hm0.mdn []) hs16_3 (MIL.cons (MI.app MI.z (nx3) (Nat.le_refl _)) MIL.nil)).nil
      replace hlm1 := Mo.trB hlm1 hs16_3 (BL.cons (nx3) BL.nil)
      have hz15 := hs16_3.size
      refine LR.nil ?_
      refine hK26 _ _ ?_
      refine CW.seq (fun K27 hK27 hE27 => ?_)
      refine CW.region ?_
      refine LR.v (Y.move rfl rfl) (Wd.u rfl) rfl rfl ?_
      refine LR.v (Y.eql rfl rfl rfl) (Wd.u rfl) rfl rfl ?_
      refine LR.nil ?_
      refine hK27 _ _ ?_
      refine CW.condp rfl (fun c58 => ?_) (fun c58 => ?_)
      ·
        have hrl := hP.len
        rw [List.length_map] at hrl
        refine CW.region ?_
        refine LR.v (Y.move rfl rfl) (Wd.u rfl) rfl rfl ?_
        refine LR.v (Y.loadN vi.pt rfl Try.isAgg30 Try.sizeOf30 (fA_len _) rfl) (Wd.u rfl) rfl rfl ?_
        refine LR.z (Z.litw _ ([x]) rfl inf28 rfl rfl rfl (by decide) (by decide) fA_len fA_one (rfl)) (Wd.u rfl) rfl rfl (fun v61 H61 r61 => ?_)
        obtain ⟨ow61, hs61, ob61, hH61⟩ := r61
        have hzs61 : H61.size = H16_3.size + 1 := by rw [hH61]; simp
        have df90 := (DF.new (bf_hc.mono hm0.size) : DF _ (H16_3.size + 1))
        have dj91 : Dj (sb + 1) (H16_3.size + 1) := Dj.new hso.lt
        have dj92 : Dj kr (H16_3.size + 1) := Dj.new ow.le
        have dj93 : Dj (H21.size + 1) (H16_3.size + 1) := Dj.new it.lt
        have dj94 : Dj (H0.size + 1) (H16_3.size + 1) := Dj.new hL.lt
        have dj95 : Dj (H20.size + 1) (H16_3.size + 1) := Dj.new hM.lt
        have dj96 : Dj (H24.size + 1) (H16_3.size + 1) := Dj.new vi.lt
        have df97 := (DF.new (bf_fam2.mono (by omega)) : DF _ (H16_3.size + 1))
        have nx98 : Nx 0 H0.size (H16_3.size + 1) := Nx.new hm0.size
        have nx99 : Nx 0 H23.size (H16_3.size + 1) := Nx.new hlm1.size
        replace hc := hc.nw hs61
        replace hso := hso.nw hs61
        replace ow := ow.nw hs61
        replace it := it.nw hs61
        replace hL := hL.nw hs61
        replace hM := hM.nw hs61
        replace vi := vi.nw hs61
        replace fam2 := fun u => (fam2 u).nw hs61
        replace hm0 := hm0.tr hs61
        replace hlm1 := Mo.trBN hlm1 hs61
        have hz16 := hs61.size
        refine LR.z (Z.apnd ow ow61.rd rfl inf28 rfl rfl (by rw [List.length_singleton]; omega) (by rw [List.length_singleton]; omega)) (Wd.u rfl) rfl rfl (fun v62 H62 r62 => ?_)
        obtain ⟨k62, ow62, hk62, hs62⟩ := r62
        replace hk62 : Nx kr H61.size k62 := hk62
        replace hs62 := hs62.md
        have df100 := DF.app (df29) (bf_hc.mono hm0.size) hk62
        have dj101 : Dj (sb + 1) k62 := Dj.app (dj30) hso.lt hk62
        have dj102 : Dj (H21.size + 1) k62 := Dj.app (dj34) it.lt hk62
        have dj103 : Dj (H0.size + 1) k62 := Dj.app (dj35) hL.lt hk62
        have dj104 : Dj (H20.size + 1) k62 := Dj.app (dj36) hM.lt hk62
        have dj105 : Dj (H24.size + 1) k62 := Dj.app (dj37.symm) vi.lt hk62
        have df106 := DF.app (fg2ow) (bf_fam2.mono (by omega)) hk62
        have dj107 : Dj (H16_3.size + 1) k62 := Dj.app (dj92.symm) ow61.le hk62
        have nx108 : Nx 0 H0.size k62 := Nx.tr (nx32) hk62 hm0.size
        have nx109 : Nx 0 H23.size k62 := Nx.tr (nx33) hk62 hlm1.size
        replace hc := hc.upL hs62 (DFL.cons df29 DFL.nil)
        replace hso := hso.upL hs62 (DL.cons dj30 DL.nil)
        replace it := it.upL hs62 (DL.cons dj34 DL.nil)
        replace hL := hL.upL hs62 (DL.cons dj35 DL.nil)
        replace hM := hM.upL hs62 (DL.cons dj36 DL.nil)
        replace vi := vi.upL hs62 (DL.cons dj37.symm DL.nil)
        replace fam2 := fun u => (fam2 u).upL hs62 (DFL.cons fg2ow DFL.nil)
        replace ow61 := ow61.upL hs62 (DL.cons dj92.symm DL.nil)
        replace hm0 := (Mo.trL (ks := []) (hm0.mdn []) hs62 (MIL.cons (MI.app MI.z (nx32) (Nat.le_refl _)) MIL.nil)).nil
        replace hlm1 := Mo.trB hlm1 hs62 (BL.cons (nx32) BL.nil)
        have hz17 := hs62.size
        have hle_ow62 := ow62.le
        obtain ⟨s62, rfl⟩ : ∃ s : SV, v62 = s.v := ⟨toSV v62, ow62.sv.symm⟩
        refine LR.v (Y.assign rfl rfl) (Wd.u rfl) rfl rfl ?_
        refine LR.nil ?_
        refine hK11 _ _ ?_
        have hdl2 := (hP.next (rd2 := if cn = 0 then rd ++ [x] else rd) hnd hxK hP2 (hco.pl x) rfl).dlen
        rw [List.length_append, List.length_map, List.length_singleton] at hdl2
        refine QN.sub (hN8 (dn ++ [x], mput L x (cn : Int), mc2, s62, k62, rd ++ [x], ch2, G2) _ ?_ ?_) ⟨rfl, rfl, rfl, rfl, rfl, rfl, rfl, trivial⟩
        · exact ⟨it, hL, hM, ow62, fam2, (bf_fam2.mono (by omega)), (fg2it), (fg2hL), (fg2hM), (df106), hG2, hP.next hnd hxK hP2 (hco.pl x) (if_pos (by omega)).symm, nx109, dj102, dj103, dj104, hlm1⟩
        · simp <;> omega
      ·
        refine CW.skip ?_
        refine hK11 _ _ ?_
        have hdl2 := (hP.next (rd2 := if cn = 0 then rd ++ [x] else rd) hnd hxK hP2 (hco.pl x) rfl).dlen
        rw [List.length_append, List.length_map, List.length_singleton] at hdl2
        refine QN.sub (hN8 (dn ++ [x], mput L x (cn : Int), mc2, o, kr, rd, ch2, G2) _ ?_ ?_) ⟨rfl, rfl, rfl, rfl, rfl, rfl, rfl, trivial⟩
        · exact ⟨it, hL, hM, ow, fam2, (bf_fam2.mono (by omega)), (fg2it), (fg2hL), (fg2hM), (fg2ow), hG2, hP.next hnd hxK hP2 (hco.pl x) (if_neg (by omega)).symm, nx33, dj34, dj35, dj36, hlm1⟩
        · simp <;> omega
  ·
    obtain ⟨hall, hdn2⟩ := hF24 c25
    rw [hdn2] at it
    have hrl := hP.len
    rw [List.length_map] at hrl
    refine CW.exit (hE10 (.exit 0) nofun _ _ (hE8 (.exit 0) nofun _ _ (hX7 _ _ ?_)))
    refine hK5 _ _ ?_
    refine CW.seq (fun K28 hK28 hE28 => ?_)
    refine CW.region ?_
    refine LR.v (Y.move rfl rfl) (Wd.u rfl) rfl rfl ?_
    -- call slices.SortFunc[[]selvage/api.Id,selvage/api.Id]
    refine LR.call rfl Try.call38 rfl (Wd.u rfl) rfl rfl (sortA_ct kr _ rd w0 _ ow (by omega)) (fun v64 H64 r64 => ?_)
    have ql110 := hso.lt
    have ql111 := it.lt
    have ql112 := hL.lt
    have ql113 := hM.lt
    have ql114 := ow.le
    obtain ⟨rd2, kr2, rfl, ow, hk64, hp64, hs64⟩ := r64
    have df115 := DF.app (df13) (bf_hc.mono hm0.size) hk64
    have dj116 : Dj (sb + 1) kr2 := Dj.app (dj14) ql110 hk64
    have dj117 : Dj (H21.size + 1) kr2 := Dj.app (dj16) ql111 hk64
    have dj118 : Dj (H0.size + 1) kr2 := Dj.app (dj17) ql112 hk64
    have dj119 : Dj (H20.size + 1) kr2 := Dj.app (dj18) ql113 hk64
    have df120 := DF.app (fgow) (bf_fam.mono (by omega)) hk64
    have nx121 : Nx 0 H0.size kr2 := Nx.tr (nx15) hk64 hm0.size
    replace hc := hc.upL hs64 (DFL.cons df13 DFL.nil)
    replace hso := hso.upL hs64 (DL.cons dj14 DL.nil)
    replace it := it.upL hs64 (DL.cons dj16 DL.nil)
    replace hL := hL.upL hs64 (DL.cons dj17 DL.nil)
    replace hM := hM.upL hs64 (DL.cons dj18 DL.nil)
    replace fam := fun u => (fam u).upL hs64 (DFL.cons fgow DFL.nil)
    replace hm0 := (Mo.trL (ks := []) (hm0.mdn []) hs64 (MIL.cons (MI.app MI.z (nx15) (Nat.le_refl _)) MIL.nil)).nil
    have hz18 := hs64.size
    have hle_ow := ow.le
    have hP3 := P3.start hP (fun k hk => by obtain ⟨p, hp, rfl⟩ := List.mem_map.1 hk; exact hall p hp) hp64.1 hp64.2
    replace ow := ow.q
    have hchc : ∀ i ∈ mm.map (·.1), ∀ k, (ch i).count k = if k ∈ mm.map (·.1) then (pa k).count i else 0 := by
      intro i hi k
      have hkd : k ∈ dn ↔ k ∈ mm.map (·.1) := ⟨fun h => hP.sub k h, fun h => by obtain ⟨p, hp, rfl⟩ := List.mem_map.1 h; exact hall p hp⟩
      rw [hP.chi]
      by_cases h9 : k ∈ mm.map (·.1)
      · rw [if_pos h9, if_pos ⟨hi, hkd.2 h9⟩]
      · rw [if_neg h9, if_neg (fun q => h9 (hkd.1 q.2))]
    refine LR.nil ?_
    refine hK28 _ _ ?_
    refine CW.seq (fun K29 hK29 hE29 => ?_)
    refine CW.block (fun K30 hK30 hX30 hE30 => ?_)
    refine CW.loop (fun (s_ : (Value) × (Nat) × (List Ide) × (Value) × (Nat) × (List Ide) × (List (Ide × Int))) => match s_ with | (vr, kr3, rd3, vo, ko, D, L3) => [(5, .map (some H0.size)), (6, .map (some H20.size)), (7, vr), (8, vo)])
      (fun (s_ : (Value) × (Nat) × (List Ide) × (Value) × (Nat) × (List Ide) × (List (Ide × Int))) (H : Heap) => match s_ with | (vr, kr3, rd3, vo, ko, D, L3) => (Mp H vA (Value.int .i64) H0.size L3) ∧ (Qr kr3 H fA 32 vr rd3) ∧ (Ow ko 30 H fA 32 vo D) ∧ (P2 pa (mm.map (·.1)) D) ∧ (P3 pa (mm.map (·.1)) D [] L3 rd3) ∧ (Nx kr2 H64.size kr3) ∧ (Nx 0 H64.size ko) ∧ (Dj (H0.size + 1) kr3) ∧ (Dj (H0.size + 1) ko) ∧ (Dj kr3 ko) ∧ Mo (Ms [(H0.size + 1), kr2]) H64 H)
      (fun (s_ : (Value) × (Nat) × (List Ide) × (Value) × (Nat) × (List Ide) × (List (Ide × Int))) => match s_ with | (vr, kr3, rd3, vo, ko, D, L3) => mm.length - D.length) (o.v, kr2, rd2, .slice none 0 0, 0, [], L) ⟨rfl, rfl, rfl, rfl, trivial⟩ ?_ ?_
    ·
      exact ⟨hL, ow, Ow.nil fA_len fA_one, P2.start, hP3, Nx.refl _ _, Nx.refl _ _, dj118, Dj.z, Dj.z, Mo.refl _ _⟩
    rintro ⟨vr, kr3, rd3, vo, ko, D, L3⟩ HL3 hI3 K31 hN31 hE31
    obtain ⟨hL, ow, oo, hP2, hP3, nxl_ow, nxl_oo, dj_hL_ow, dj_hL_oo, dj_ow_oo, hlm3⟩ := hI3
    have df122 := DF.app (df115) (bf_hc.mono hm0.size) nxl_ow
    have dj123 : Dj (sb + 1) kr3 := Dj.app (dj116) hso.lt nxl_ow
    have dj124 : Dj (H21.size + 1) kr3 := Dj.app (dj117) it.lt nxl_ow
    have dj125 : Dj (H20.size + 1) kr3 := Dj.app (dj119) hM.lt nxl_ow
    have df126 := DF.app (df120) (bf_fam.mono (by omega)) nxl_ow
    have nx127 : Nx 0 H0.size kr3 := Nx.tr (nx121) nxl_ow hm0.size
    have df128 := DF.app (DF.z) (bf_hc.mono hm0.size) nxl_oo
    have dj129 : Dj (sb + 1) ko := Dj.app (Dj.z) hso.lt nxl_oo
    have dj130 : Dj (H21.size + 1) ko := Dj.app (Dj.z) it.lt nxl_oo
    have dj131 : Dj (H20.size + 1) ko := Dj.app (Dj.z) hM.lt nxl_oo
    have df132 := DF.app (DF.z) (bf_fam.mono (by omega)) nxl_oo
    have nx133 : Nx 0 H0.size ko := Nx.tr (Nx.refl 0 _) nxl_oo hm0.size
    replace hc := hc.upL hlm3 (DFL.cons df1 (DFL.cons df115 DFL.nil))
    replace hso := hso.upL hlm3 (DL.cons dj2 (DL.cons dj116 DL.nil))
    replace it := it.upL hlm3 (DL.cons dj10.symm (DL.cons dj117 DL.nil))
    replace hM := hM.upL hlm3 (DL.cons dj6.symm (DL.cons dj119 DL.nil))
    replace fam := fun u => (fam u).upL hlm3 (DFL.cons fghL (DFL.cons df120 DFL.nil))
    replace hm0 := (Mo.trL (ks := []) (hm0.mdn []) hlm3 (MIL.cons (MI.app MI.z (nx3) (Nat.le_refl _)) (MIL.cons (MI.app MI.z (nx121) (Nat.le_refl _)) MIL.nil))).nil
    have hz19 := hlm3.size
    have hle_ow := ow.le
    have hle_oo := oo.le
    have dj134 := dj_hL_ow
    have dj135 := dj_hL_oo
    have dj136 := dj_ow_oo
    have nx_hlm3_hL := Nx.refl (H0.size + 1) H64.size
    have nx137 := nxl_ow
    have nx138 := nxl_oo
    have hDl := nodup_le hP2.dnd hP2.dsub
    rw [List.length_map] at hDl
    have hrl3 := nodup_le (ris_nodup hP3.ris) (fun k hk => ((hP3.rdm k).1 hk).1)
    rw [List.length_map] at hrl3
    refine CW.seq (fun K32 hK32 hE32 => ?_)
    refine CW.seq (fun K33 hK33 hE33 => ?_)
    refine CW.region ?_
    refine LR.v (Y.move rfl rfl) (Wd.u rfl) rfl rfl ?_
    refine LR.v (Y.len ow.rd rfl Try.runUnderlying28 rfl) (Wd.u rfl) rfl rfl ?_
    refine LR.v (Y.gtr rfl rfl rfl) (Wd.u rfl) rfl rfl ?_
    refine LR.nil ?_
    refine hK33 _ _ ?_
    refine CW.condp rfl (fun c67 => ?_) (fun c67 => ?_)
    ·
      obtain ⟨i, r2, hrd⟩ : ∃ i r2, rd3 = i :: r2 := by
        cases rd3 with
        | nil => simp at c67
        | cons a b => exact ⟨a, b, rfl⟩
      have hi3 := (hP3.rdm i).1 (by rw [hrd]; exact List.mem_cons_self)
      rw [hrd] at hP3
      refine CW.skip ?_
      refine hK32 _ _ ?_
      refine CW.block (fun K34 hK34 hX34 hE34 => ?_)
      refine CW.seq (fun K35 hK35 hE35 => ?_)
      refine CW.region ?_
      refine LR.v (Y.move rfl rfl) (Wd.u rfl) rfl rfl ?_
      refine LR.e (g := fun ad => .pointer (some ad)) (Y.indexAddr ow.rd (0) rfl Try.runUnderlying28 Try.sizeOf30 rfl rfl (by first | rfl | omega) (by omega)) (Wd.u rfl) rfl rfl (fun ad69 pt69 => ?_)
      refine LR.v (Y.cast (v2 := vA i) (Y.loadN pt69 rfl Try.isAgg30 Try.sizeOf30 (fA_len _) rfl) (by subst hrd; rfl)) (Wd.u rfl) rfl rfl ?_
      refine LR.z (Z.allocv rfl Try.zeroValue30) (Wd.u rfl) rfl rfl (fun v15 H15 r15 => ?_)
      obtain ⟨rfl, vk, hs15, ob15, hH15⟩ := r15
      have hzs15 : H15.size = HL3.size + 1 := by rw [hH15]; simp
      have df139 := (DF.new (bf_hc.mono hm0.size) : DF _ (HL3.size + 1))
      have dj140 : Dj (sb + 1) (HL3.size + 1) := Dj.new hso.lt
      have dj141 : Dj (H21.size + 1) (HL3.size + 1) := Dj.new it.lt
      have dj142 : Dj (H20.size + 1) (HL3.size + 1) := Dj.new hM.lt
      have df143 := (DF.new (bf_fam.mono (by omega)) : DF _ (HL3.size + 1))
      have dj144 : Dj (H0.size + 1) (HL3.size + 1) := Dj.new hL.lt
      have dj145 : Dj kr3 (HL3.size + 1) := Dj.new ow.le
      have dj146 : Dj ko (HL3.size + 1) := Dj.new oo.le
      have nx147 : Nx 0 H0.size (HL3.size + 1) := Nx.new hm0.size
      have nx148 : Nx 0 H64.size (HL3.size + 1) := Nx.new hlm3.size
      replace hc := hc.nw hs15
      replace hso := hso.nw hs15
      replace it := it.nw hs15
      replace hM := hM.nw hs15
      replace fam := fun u => (fam u).nw hs15
      replace hL := hL.nw hs15
      replace ow := ow.nw hs15
      replace oo := oo.nw hs15
      replace hm0 := hm0.tr hs15
      replace hlm3 := hlm3.trN hs15
      have hz20 := hs15.size
      replace vk : Var 30 H15 HL3.size (fA Zid) := vk
      refine LR.s (S.var vk (_) (fA (i)) rfl rfl rfl rfl (fA_one _) Try.sizeOf30 (fA_len _) (by first | decide | simp [fA_len]) ((splice_all2 (by first | exact (fA_len _).symm | rfl | exact (fA_len _).trans (fA_len _).symm)))) (Wd.u rfl) rfl (fun H21_4 r21_4 => ?_)
      obtain ⟨vk, hs21_4⟩ := r21_4
      replace hs21_4 := hs21_4.md1
      replace hc := hc.upL hs21_4 (DFL.cons df139 DFL.nil)
      replace hso := hso.upL hs21_4 (DL.cons dj140 DL.nil)
      replace it := it.upL hs21_4 (DL.cons dj141 DL.nil)
      replace hM := hM.upL hs21_4 (DL.cons dj142 DL.nil)
      replace fam := fun u => (fam u).upL hs21_4 (DFL.cons df143 DFL.nil)
      replace hL := hL.upL hs21_4 (DL.cons dj144 DL.nil)
      replace ow := ow.upL hs21_4 (DL.cons dj145 DL.nil)
      replace oo := oo.upL hs21_4 (DL.cons dj146 DL.nil)
      replace hm0 := (Mo.trL (ks := []) (hm0.mdn []) hs21_4 (MIL.cons (MI.app MI.z (nx147) (Nat.le_refl _)) MIL.nil)).nil
      replace hlm3 := hlm3.trL hs21_4 (MIL.cons (MI.app MI.z (nx148) (Nat.le_refl _)) MIL.nil)
      have hz21 := hs21_4.size
      refine LR.nil ?_
      refine hK35 _ _ ?_
      refine CW.seq (fun K36 hK36 hE36 => ?_)
      refine CW.region ?_
      refine LR.v (Y.move rfl rfl) (Wd.u rfl) rfl rfl ?_
      refine LR.e (g := fun v => v) (Y.slice ow.rd (1) (rd3.length) rfl Try.runUnderlying28 Try.sizeOf30 rfl (.inr ⟨_, _, _, rfl, rfl, by first | rfl | omega⟩) (.inl ⟨rfl, rfl⟩) (by omega) (by omega)) (Wd.u rfl) rfl rfl (fun v72 rd72 => ?_)
      have bf_rd72 := BF.of ow.le
      replace ow := Qr.of72 (F := fun _ => True) ow hrd rd72
      refine LR.v (Y.assign rfl rfl) (Wd.u rfl) rfl rfl ?_
      refine LR.nil ?_
      refine hK36 _ _ ?_
      refine CW.seq (fun K37 hK37 hE37 => ?_)
      refine CW.region ?_
      refine LR.v (Y.move rfl rfl) (Wd.u rfl) rfl rfl ?_
      refine LR.v (Y.loadN vk.pt rfl Try.isAgg30 Try.sizeOf30 (fA_len _) rfl) (Wd.u rfl) rfl rfl ?_
      refine LR.z (Z.litw _ ([i]) rfl inf28 rfl rfl rfl (by decide) (by decide) fA_len fA_one (rfl)) (Wd.u rfl) rfl rfl (fun v75 H75 r75 => ?_)
      obtain ⟨ow75, hs75, ob75, hH75⟩ := r75
      have hzs75 : H75.size = H21_4.size + 1 := by rw [hH75]; simp
      have df149 := (DF.new (bf_hc.mono hm0.size) : DF _ (H21_4.size + 1))
      have dj150 : Dj (sb + 1) (H21_4.size + 1) := Dj.new hso.lt
      have dj151 : Dj (H21.size + 1) (H21_4.size + 1) := Dj.new it.lt
      have dj152 : Dj (H20.size + 1) (H21_4.size + 1) := Dj.new hM.lt
      have df153 := (DF.new (bf_fam.mono (by omega)) : DF _ (H21_4.size + 1))
      have dj154 : Dj (H0.size + 1) (H21_4.size + 1) := Dj.new hL.lt
      have dj155 : Dj kr3 (H21_4.size + 1) := Dj.new ow.le
      have dj156 : Dj ko (H21_4.size + 1) := Dj.new oo.le
      have dj157 : Dj (HL3.size + 1) (H21_4.size + 1) := Dj.new vk.lt
      have nx158 : Nx 0 H0.size (H21_4.size + 1) := Nx.new hm0.size
      have nx159 : Nx 0 H64.size (H21_4.size + 1) := Nx.new hlm3.size
      replace hc := hc.nw hs75
      replace hso := hso.nw hs75
      replace it := it.nw hs75
      replace hM := hM.nw hs75
      replace fam := fun u => (fam u).nw hs75
      replace hL := hL.nw hs75
      replace ow := ow.nw hs75
      replace oo := oo.nw hs75
      replace vk := vk.nw hs75
      replace hm0 := hm0.tr hs75
      replace hlm3 := hlm3.trN hs75
      have hz22 := hs75.size
      refine LR.z (Z.apnd oo ow75.rd rfl inf28 rfl rfl (by rw [List.length_singleton]; omega) (by rw [List.length_singleton]; omega)) (Wd.u rfl) rfl rfl (fun v76 H76 r76 => ?_)
      obtain ⟨k76, oo, hk76, hs76⟩ := r76
      replace hk76 : Nx ko H75.size k76 := hk76
      replace hs76 := hs76.md
      have df160 := DF.app (df128) (bf_hc.mono hm0.size) hk76
      have dj161 : Dj (sb + 1) k76 := Dj.app (dj129) hso.lt hk76
      have dj162 : Dj (H21.size + 1) k76 := Dj.app (dj130) it.lt hk76
      have dj163 : Dj (H20.size + 1) k76 := Dj.app (dj131) hM.lt hk76
      have df164 := DF.app (df132) (bf_fam.mono (by omega)) hk76
      have dj165 : Dj (H0.size + 1) k76 := Dj.app (dj135) hL.lt hk76
      have dj166 : Dj kr3 k76 := Dj.app (dj136) ow.le hk76
      have dj167 : Dj (HL3.size + 1) k76 := Dj.app (dj146.symm) vk.lt hk76
      have dj168 : Dj (H21_4.size + 1) k76 := Dj.app (dj156.symm) ow75.le hk76
      have nx169 : Nx 0 H0.size k76 := Nx.tr (nx133) hk76 hm0.size
      have nx170 : Nx 0 H64.size k76 := Nx.tr (nx138) hk76 hlm3.size
      replace hc := hc.upL hs76 (DFL.cons df128 DFL.nil)
      replace hso := hso.upL hs76 (DL.cons dj129 DL.nil)
      replace it := it.upL hs76 (DL.cons dj130 DL.nil)
      replace hM := hM.upL hs76 (DL.cons dj131 DL.nil)
      replace fam := fun u => (fam u).upL hs76 (DFL.cons df132 DFL.nil)
      replace hL := hL.upL hs76 (DL.cons dj135 DL.nil)
      replace ow := ow.upL hs76 (DL.cons dj136 DL.nil)
      replace vk := vk.upL hs76 (DL.cons dj146.symm DL.nil)
      replace ow75 := ow75.upL hs76 (DL.cons dj156.symm DL.nil)
      replace hm0 := (Mo.trL (ks := []) (hm0.mdn []) hs76 (MIL.cons (MI.app MI.z (nx133) (Nat.le_refl _)) MIL.nil)).nil
      replace hlm3 := hlm3.trL hs76 (MIL.cons (MI.app MI.z (nx138) (Nat.le_refl _)) MIL.nil)
      have hz23 := hs76.size
      have hle_oo := oo.le
      refine LR.v (Y.assign rfl rfl) (Wd.u rfl) rfl rfl ?_
      refine LR.nil ?_
      refine hK37 _ _ ?_
      refine CW.seq (fun K38 hK38 hE38 => ?_)
      refine CW.region ?_
      refine LR.v (Y.move rfl rfl) (Wd.u rfl) rfl rfl ?_
      refine LR.v (Y.loadN vk.pt rfl Try.isAgg30 Try.sizeOf30 (fA_len _) rfl) (Wd.u rfl) rfl rfl ?_
      refine LR.v (Y.lookupA hM.mo keyId rfl Try.runUnderlying69 Try.zeroValue28 rfl rfl) (Wd.u rfl) rfl rfl ?_
      refine LR.v (Y.len ((fam ()).row i) rfl Try.runUnderlying28 rfl) (Wd.u rfl) rfl rfl ?_
      refine LR.v (Y.move rfl rfl) (Wd.u rfl) rfl rfl ?_
      refine LR.nil ?_
      refine hK38 _ _ ?_
      refine CW.block (fun K39 hK39 hX39 hE39 => ?_)
      refine CW.loop (fun (s_ : (Nat) × (Value) × (Nat) × (List Ide) × (List (Ide × Int))) => match s_ with | (j, vr4, kr4, rd4, L4) => [(5, .map (some H0.size)), (6, .map (some H20.size)), (7, vr4), (8, v76), (79, (id ((mget mc i).getD nilS) : Value)), (80, .int .i64 ((ch i).length : Int)), (81, .int .i64 (j : Int))])
        (fun (s_ : (Nat) × (Value) × (Nat) × (List Ide) × (List (Ide × Int))) (H : Heap) => match s_ with | (j, vr4, kr4, rd4, L4) => (Mp H vA (Value.int .i64) H0.size L4) ∧ (Qr kr4 H fA 32 vr4 rd4) ∧ (j ≤ (ch i).length) ∧ (P3 pa (mm.map (·.1)) (D ++ [i]) ((ch i).drop j) L4 rd4) ∧ (Nx kr3 H76.size kr4) ∧ (Dj (H0.size + 1) kr4) ∧ Mo (Ms [(H0.size + 1), kr3]) H76 H)
        (fun (s_ : (Nat) × (Value) × (Nat) × (List Ide) × (List (Ide × Int))) => match s_ with | (j, vr4, kr4, rd4, L4) => (ch i).length - j) (0, v72, kr3, r2, L3) ⟨rfl, rfl, rfl, rfl, rfl, rfl, rfl, trivial⟩ ?_ ?_
      ·
        exact ⟨hL, ow, (by omega), by rw [List.drop_zero]; exact hP3.pop (hchc i hi3.1), Nx.refl _ _, dj134, Mo.refl _ _⟩
      rintro ⟨j, vr4, kr4, rd4, L4⟩ HL4 hI4 K40 hN40 hE40
      obtain ⟨hL, ow, hj, hP4, nxl_ow, dj_hL_ow, hlm4⟩ := hI4
      have df171 := DF.app (df122) (bf_hc.mono hm0.size) nxl_ow
      have dj172 : Dj (sb + 1) kr4 := Dj.app (dj123) hso.lt nxl_ow
      have dj173 : Dj (H21.size + 1) kr4 := Dj.app (dj124) it.lt nxl_ow
      have dj174 : Dj (H20.size + 1) kr4 := Dj.app (dj125) hM.lt nxl_ow
      have df175 := DF.app (df126) (bf_fam.mono (by omega)) nxl_ow
      have dj176 : Dj k76 kr4 := Dj.app (dj166.symm) oo.le nxl_ow
      have nx177 : Nx 0 H0.size kr4 := Nx.tr (nx127) nxl_ow hm0.size
      have nx178 : Nx kr2 H64.size kr4 := Nx.tr (nx137) nxl_ow hlm3.size
      replace hc := hc.upL hlm4 (DFL.cons df1 (DFL.cons df122 DFL.nil))
      replace hso := hso.upL hlm4 (DL.cons dj2 (DL.cons dj123 DL.nil))
      replace it := it.upL hlm4 (DL.cons dj10.symm (DL.cons dj124 DL.nil))
      replace hM := hM.upL hlm4 (DL.cons dj6.symm (DL.cons dj125 DL.nil))
      replace fam := fun u => (fam u).upL hlm4 (DFL.cons fghL (DFL.cons df126 DFL.nil))
      replace oo := oo.upL hlm4 (DL.cons dj165.symm (DL.cons dj166.symm DL.nil))
      replace hm0 := (Mo.trL (ks := []) (hm0.mdn []) hlm4 (MIL.cons (MI.app MI.z (nx3) (Nat.le_refl _)) (MIL.cons (MI.app MI.z (nx127) (Nat.le_refl _)) MIL.nil))).nil
      replace hlm3 := hlm3.trL hlm4 (MIL.cons (MI.app (MI.root (by simp)) (nx_hlm3_hL) (Nat.le_refl _)) (MIL.cons (MI.app (MI.root (by simp)) (nx137) (Nat.le_refl _)) MIL.nil))
      have hz24 := hlm4.size
      have hle_ow := ow.le
      have dj179 := dj_hL_ow
      have nx_hlm4_hL := Nx.refl (H0.size + 1) H76.size
      have nx180 := nxl_ow
      have hrl4 := nodup_le (ris_nodup hP4.ris) (fun k hk => ((hP4.rdm k).1 hk).1)
      rw [List.length_map] at hrl4
      have hchl := hP.chl i
      have hdl4 := hP.dlen
      rw [List.length_map] at hdl4
      refine CW.seq (fun K41 hK41 hE41 => ?_)
      refine CW.region ?_
      refine LR.v (Y.lss rfl rfl rfl) (Wd.u rfl) rfl rfl ?_
      refine LR.nil ?_
      refine hK41 _ _ ?_
      refine CW.seq (fun K42 hK42 hE42 => ?_)
      refine CW.condp rfl (fun c82 => ?_) (fun c82 => ?_)
      ·
        have hjl : j < (ch i).length := by omega
        obtain ⟨k4, hk4⟩ : ∃ k4, k4 = (ch i)[j] := ⟨_, rfl⟩
        have hdr := List.drop_eq_getElem_cons hjl
        rw [← hk4] at hdr
        rw [hdr] at hP4
        have hcm : 0 < (ch i).count k4 := List.count_pos_iff.2 (by rw [hk4]; exact List.getElem_mem hjl)
        have hkK : k4 ∈ mm.map (·.1) ∧ i ∈ pa k4 := by
          have h9 := hchc i hi3.1 k4
          by_cases h8 : k4 ∈ mm.map (·.1)
          · rw [if_pos h8] at h9
            exact ⟨h8, List.count_pos_iff.1 (by omega)⟩
          · rw [if_neg h8] at h9; omega
        obtain ⟨n4, hn4⟩ : ∃ n, n = cntI (mm.map (·.1)) (D ++ [i]) (pa k4) + ((ch i).drop (j + 1)).count k4 := ⟨_, rfl⟩
        have hl4 : mget L4 k4 = some ((n4 + 1 : Nat) : Int) := by
          rw [hP4.left k4 hkK.1, List.count_cons_self, hn4, Nat.add_assoc]
        have hkD := kid_fresh hP2 hi3.1 hi3.2.1 hac hkK.2
        have hnb1 := cntI_le (mm.map (·.1)) (D ++ [i]) (pa k4)
        have hnb2 := hco.pl k4
        have hnb3 := List.count_le_length (a := k4) (l := (ch i).drop (j + 1))
        rw [List.length_drop] at hnb3
        refine CW.skip ?_
        refine hK42 _ _ ?_
        refine CW.seq (fun K43 hK43 hE43 => ?_)
        refine CW.block (fun K44 hK44 hX44 hE44 => ?_)
        refine CW.seq (fun K45 hK45 hE45 => ?_)
        refine CW.region ?_
        refine LR.e (g := fun ad => .pointer (some ad)) (Y.indexAddrF ((fam ()).row i) (j) rfl Try.runUnderlying28 Try.sizeOf30 rfl rfl (by first | rfl | omega) (by omega)) (Wd.u rfl) rfl rfl (fun ad83 pt83 => ?_)
        have bf_pt83 := bf_fam
        refine LR.v (Y.cast (v2 := vA k4) (Y.loadN pt83.pt rfl Try.isAgg30 Try.sizeOf30 (fA_len _) rfl) (by rw [hk4]; rfl)) (Wd.u rfl) rfl rfl ?_
        refine LR.z (Z.allocv rfl Try.zeroValue30) (Wd.u rfl) rfl rfl (fun v17 H17 r17 => ?_)
        obtain ⟨rfl, vq, hs17, ob17, hH17⟩ := r17
        have hzs17 : H17.size = HL4.size + 1 := by rw [hH17]; simp
        have df181 := (DF.new (bf_hc.mono hm0.size) : DF _ (HL4.size + 1))
        have dj182 : Dj (sb + 1) (HL4.size + 1) := Dj.new hso.lt
        have dj183 : Dj (H21.size + 1) (HL4.size + 1) := Dj.new it.lt
        have dj184 : Dj (H20.size + 1) (HL4.size + 1) := Dj.new hM.lt
        have df185 := (DF.new (bf_fam.mono (by omega)) : DF _ (HL4.size + 1))
        have dj186 : Dj kr4 (HL4.size + 1) := Dj.new ow.le
        have dj187 : Dj k76 (HL4.size + 1) := Dj.new oo.le
        have dj188 : Dj (H0.size + 1) (HL4.size + 1) := Dj.new hL.lt
        have df189 := (DF.new (bf_pt83.mono (by omega)) : DF _ (HL4.size + 1))
        have nx190 : Nx 0 H0.size (HL4.size + 1) := Nx.new hm0.size
        have nx191 : Nx 0 H64.size (HL4.size + 1) := Nx.new hlm3.size
        have nx192 : Nx 0 H76.size (HL4.size + 1) := Nx.new hlm4.size
        replace hc := hc.nw hs17
        replace hso := hso.nw hs17
        replace it := it.nw hs17
        replace hM := hM.nw hs17
        replace fam := fun u => (fam u).nw hs17
        replace ow := ow.nw hs17
        replace oo := oo.nw hs17
        replace hL := hL.nw hs17
        replace pt83 := pt83.nw hs17
        replace hm0 := hm0.tr hs17
        replace hlm3 := hlm3.trN hs17
        replace hlm4 := hlm4.trN hs17
        have hz25 := hs17.size
        replace vq : Var 30 H17 HL4.size (fA Zid) := vq
        refine LR.s (S.var vq (_) (fA (k4)) rfl rfl rfl rfl (fA_one _) Try.sizeOf30 (fA_len _) (by first | decide | simp [fA_len]) ((splice_all2 (by first | exact (fA_len _).symm | rfl | exact (fA_len _).trans (fA_len _).symm)))) (Wd.u rfl) rfl (fun H26_3 r26_3 => ?_)
        obtain ⟨vq, hs26_3⟩ := r26_3
        replace hs26_3 := hs26_3.md1
        replace hc := hc.upL hs26_3 (DFL.cons df181 DFL.nil)
        replace hso := hso.upL hs26_3 (DL.cons dj182 DL.nil)
        replace it := it.upL hs26_3 (DL.cons dj183 DL.nil)
        replace hM := hM.upL hs26_3 (DL.cons dj184 DL.nil)
        replace fam := fun u => (fam u).upL hs26_3 (DFL.cons df185 DFL.nil)
        replace ow := ow.upL hs26_3 (DL.cons dj186 DL.nil)
        replace oo := oo.upL hs26_3 (DL.cons dj187 DL.nil)
        replace hL := hL.upL hs26_3 (DL.cons dj188 DL.nil)
        replace pt83 := pt83.upL hs26_3 (DFL.cons df189 DFL.nil)
        replace hm0 := (Mo.trL (ks := []) (hm0.mdn []) hs26_3 (MIL.cons (MI.app MI.z (nx190) (Nat.le_refl _)) MIL.nil)).nil
        replace hlm3 := hlm3.trL hs26_3 (MIL.cons (MI.app MI.z (nx191) (Nat.le_refl _)) MIL.nil)
        replace hlm4 := hlm4.trL hs26_3 (MIL.cons (MI.app MI.z (nx192) (Nat.le_refl _)) MIL.nil)
        have hz26 := hs26_3.size
        refine LR.nil ?_
        refine hK45 _ _ ?_
        refine CW.seq (fun K46 hK46 hE46 => ?_)
        refine CW.region_any (fun Hq => Mp Hq vA (Value.int .i64) H0.size L4 ∧ Mo (Ms [H0.size + 1]) H26_3 Hq) [6] rfl ?_
        have hqs := (⟨hL, Mo.refl _ _⟩ : Mp H26_3 vA (Value.int .i64) H0.size L4 ∧ Mo (Ms [H0.size + 1]) H26_3 H26_3)
        refine LH.take 0 (by kernel_rfl) rfl (by kernel_rfl) (by kernel_rfl) (by kernel_rfl) (fun Hq hq => Y.move rfl rfl) (Wd.u rfl) rfl rfl hqs ?_
        refine LH.take 1 (by kernel_rfl) rfl (by kernel_rfl) (by kernel_rfl) (by kernel_rfl) (fun Hq hq => Y.loadN ((vq.upL hq.2 (DL.cons (dj188).symm DL.nil)).pt) rfl Try.isAgg30 Try.sizeOf30 (fA_len _) rfl) (Wd.u rfl) rfl rfl hqs ?_
        refine LH.take 2 (by kernel_rfl) rfl (by kernel_rfl) (by kernel_rfl) (by kernel_rfl) (fun Hq hq => Y.cast (v2 := .int .i64 ((n4 + 1 : Nat) : Int)) (Y.lookupA hq.1.mo keyId rfl Try.runUnderlying72 Try.zeroValue3 rfl rfl) (by rw [hl4]; rfl)) (Wd.u rfl) rfl rfl hqs ?_
        refine LH.take 3 (by kernel_rfl) rfl (by kernel_rfl) (by kernel_rfl) (by kernel_rfl) (fun Hq hq => Y.cast (v2 := .int .i64 (n4 : Int)) (Y.subi rfl rfl rfl (by omega)) (ivv (by omega))) (Wd.u rfl) rfl rfl hqs ?_
        refine LH.one (i := 4) (by kernel_rfl) ?_
        refine LO.z rfl (Z.entA hL keyId rfl Try.runUnderlying72 Try.zeroValue3 rfl rfl) (Wd.u rfl) rfl rfl (fun v89 H89 r89 => ?_)
        obtain ⟨qe, rfl, hL, hs89⟩ := r89
        replace hs89 := hs89.md1
        replace hc := hc.upL hs89 (DFL.cons df1 DFL.nil)
        replace hso := hso.upL hs89 (DL.cons dj2 DL.nil)
        replace it := it.upL hs89 (DL.cons dj10.symm DL.nil)
        replace hM := hM.upL hs89 (DL.cons dj6.symm DL.nil)
        replace fam := fun u => (fam u).upL hs89 (DFL.cons fghL DFL.nil)
        replace ow := ow.upL hs89 (DL.cons dj179.symm DL.nil)
        replace oo := oo.upL hs89 (DL.cons dj165.symm DL.nil)
        replace vq := vq.upL hs89 (DL.cons dj188.symm DL.nil)
        replace hm0 := (Mo.trL (ks := []) (hm0.mdn []) hs89 (MIL.cons (MI.app MI.z (nx3) (Nat.le_refl _)) MIL.nil)).nil
        replace hlm3 := hlm3.trL hs89 (MIL.cons (MI.app (MI.root (by simp)) (nx_hlm3_hL) (Nat.le_refl _)) MIL.nil)
        replace hlm4 := hlm4.trL hs89 (MIL.cons (MI.app (MI.root (by simp)) (nx_hlm4_hL) (Nat.le_refl _)) MIL.nil)
        have hz27 := hs89.size
        have hq89 := And.intro (show Mp _ vA (Value.int .i64) H0.size L4 from by have h9 := hL.mp; rwa [ment_old (by rw [hl4]; rfl)] at h9) hs89
        refine ⟨.inr hq89, ?_⟩
        refine LH.take 5 (by kernel_rfl) rfl (by kernel_rfl) (by kernel_rfl) (by kernel_rfl) (fun Hq hq => Y.extract rfl rfl rfl) (Wd.u rfl) rfl rfl hq89 ?_
        refine LH.one (i := 6) (by kernel_rfl) ?_
        refine LO.s rfl (S.entA ((n4 : Int)) hL keyId.inj rfl rfl rfl rfl) (Wd.u rfl) rfl (fun H27_6 r27_6 => ?_)
        obtain ⟨hL, hs27_6⟩ := r27_6
        rw [ment_put] at hL
        replace hs27_6 := hs27_6.md1
        replace hc := hc.upL hs27_6 (DFL.cons df1 DFL.nil)
        replace hso := hso.upL hs27_6 (DL.cons dj2 DL.nil)
        replace it := it.upL hs27_6 (DL.cons dj10.symm DL.nil)
        replace hM := hM.upL hs27_6 (DL.cons dj6.symm DL.nil)
        replace fam := fun u => (fam u).upL hs27_6 (DFL.cons fghL DFL.nil)
        replace ow := ow.upL hs27_6 (DL.cons dj179.symm DL.nil)
        replace oo := oo.upL hs27_6 (DL.cons dj165.symm DL.nil)
        replace vq := vq.upL hs27_6 (DL.cons dj188.symm DL.nil)
        replace hm0 := (Mo.trL (ks := []) (hm0.mdn []) hs27_6 (MIL.cons (MI.app MI.z (nx3) (Nat.le_refl _)) MIL.nil)).nil
        replace hlm3 := hlm3.trL hs27_6 (MIL.cons (MI.app (MI.root (by simp)) (nx_hlm3_hL) (Nat.le_refl _)) MIL.nil)
        replace hlm4 := hlm4.trL hs27_6 (MIL.cons (MI.app (MI.root (by simp)) (nx_hlm4_hL) (Nat.le_refl _)) MIL.nil)
        have hz28 := hs27_6.size
        refine ⟨.inl rfl, ?_⟩
        refine LH.done (by kernel_rfl) ?_
        have hqe := hq89
        refine hK46 _ _ ?_
        refine CW.seq (fun K47 hK47 hE47 => ?_)
        refine CW.region ?_
        refine LR.v (Y.move rfl rfl) (Wd.u rfl) rfl rfl ?_
        refine LR.v (Y.loadN vq.pt rfl Try.isAgg30 Try.sizeOf30 (fA_len _) rfl) (Wd.u rfl) rfl rfl ?_
        refine LR.v (Y.cast (v2 := .int .i64 (n4 : Int)) (Y.lookupA hL.mo keyId rfl Try.runUnderlying72 Try.zeroValue3 rfl rfl) (by rw [mget_put, if_pos rfl]; rfl)) (Wd.u rfl) rfl rfl ?_
        refine LR.v (Y.eql rfl rfl rfl) (Wd.u rfl) rfl rfl ?_
        refine LR.nil ?_
        refine hK47 _ _ ?_
        refine CW.condp rfl (fun c94 => ?_) (fun c94 => ?_)
        ·
          refine CW.seq (fun K48 hK48 hE48 => ?_)
          refine CW.region ?_
          refine LR.v (Y.move rfl rfl) (Wd.u rfl) rfl rfl ?_
          refine LR.v (Y.loadN vq.pt rfl Try.isAgg30 Try.sizeOf30 (fA_len _) rfl) (Wd.u rfl) rfl rfl ?_
          -- call slices.BinarySearchFunc[[]selvage/api.Id,selvage/api.Id,selvage/api.Id]
          refine LR.call rfl Try.call39 rfl (Wd.u rfl) rfl rfl (bsf_ct _ rd4 k4 w0 _ ow.rd.any (by omega) hP4.ris) (fun v98 H98 r98 => ?_)
          obtain ⟨pos, fd, rfl, hpos, hs98⟩ := r98
          replace hc := hc.nw hs98
          replace hso := hso.nw hs98
          replace it := it.nw hs98
          replace hM := hM.nw hs98
          replace fam := fun u => (fam u).nw hs98
          replace ow := ow.nw hs98
          replace oo := oo.nw hs98
          replace hL := hL.nw hs98
          replace vq := vq.nw hs98
          replace hm0 := hm0.tr hs98
          replace hlm3 := hlm3.trN hs98
          replace hlm4 := hlm4.trN hs98
          have hz29 := hs98.size
          refine LR.v (Y.move rfl rfl) (Wd.u rfl) rfl rfl ?_
          refine LR.v (Y.extract rfl rfl rfl) (Wd.u rfl) rfl rfl ?_
          refine LR.v (Y.extract rfl rfl rfl) (Wd.u rfl) rfl rfl ?_
          refine LR.v (Y.assign rfl rfl) (Wd.u rfl) rfl rfl ?_
          refine LR.v (Y.assign rfl rfl) (Wd.u rfl) rfl rfl ?_
          refine LR.nil ?_
          refine hK48 _ _ ?_
          refine CW.region_any (fun Hq => Nw H98 Hq) [6] rfl ?_
          have hq30 : Nw H98 H98 := Mo.refl _ _
          refine LH.take 0 (by kernel_rfl) rfl (by kernel_rfl) (by kernel_rfl) (by kernel_rfl) (fun Hq hq => Y.move rfl rfl) (Wd.u rfl) rfl rfl hq30 ?_
          refine LH.take 2 (by kernel_rfl) rfl (by kernel_rfl) (by kernel_rfl) (by kernel_rfl) (fun Hq hq => Y.move rfl rfl) (Wd.u rfl) rfl rfl hq30 ?_
          refine LH.take 3 (by kernel_rfl) rfl (by kernel_rfl) (by kernel_rfl) (by kernel_rfl) (fun Hq hq => Y.loadN (vq.pt.nw hq) rfl Try.isAgg30 Try.sizeOf30 (fA_len _) rfl) (Wd.u rfl) rfl rfl hq30 ?_
          refine LH.two (i := 1) (j := 4) (by kernel_rfl) ?_ ?_
          ·
            -- call slices.Clone[[]selvage/api.Id,selvage/api.Id]
            refine LO.call rfl rfl Try.call37 rfl (Wd.u rfl) rfl rfl (iclone_ct _ rd4 w0 _ ow.rd.any (by omega)) (fun v102 H102 r102 => ?_)
            obtain ⟨s102, k102, rfl, oc, hk102, hs102⟩ := r102
            have df193 := DF.app (DF.z) (bf_hc.mono hm0.size) hk102
            have dj194 : Dj (sb + 1) k102 := Dj.app (Dj.z) hso.lt hk102
            have dj195 : Dj (H21.size + 1) k102 := Dj.app (Dj.z) it.lt hk102
            have dj196 : Dj (H20.size + 1) k102 := Dj.app (Dj.z) hM.lt hk102
            have df197 := DF.app (DF.z) (bf_fam.mono (by omega)) hk102
            have dj198 : Dj kr4 k102 := Dj.app (Dj.z) ow.le hk102
            have dj199 : Dj k76 k102 := Dj.app (Dj.z) oo.le hk102
            have dj200 : Dj (H0.size + 1) k102 := Dj.app (Dj.z) hL.lt hk102
            have dj201 : Dj (HL4.size + 1) k102 := Dj.app (Dj.z) vq.lt hk102
            have nx202 : Nx 0 H0.size k102 := Nx.tr (Nx.refl 0 _) hk102 hm0.size
            have nx203 : Nx 0 H64.size k102 := Nx.tr (Nx.refl 0 _) hk102 hlm3.size
            have nx204 : Nx 0 H76.size k102 := Nx.tr (Nx.refl 0 _) hk102 hlm4.size
            have nx205 : Nx 0 H98.size k102 := Nx.tr (Nx.refl 0 _) hk102 hq30.size
            replace hc := hc.nw hs102
            replace hso := hso.nw hs102
            replace it := it.nw hs102
            replace hM := hM.nw hs102
            replace fam := fun u => (fam u).nw hs102
            replace ow := ow.nw hs102
            replace oo := oo.nw hs102
            replace hL := hL.nw hs102
            replace vq := vq.nw hs102
            replace hm0 := hm0.tr hs102
            replace hlm3 := hlm3.trN hs102
            replace hlm4 := hlm4.trN hs102
            replace hq30 := hq30.tr hs102
            have hz30 := hs102.size
            have hle_oc := oc.le
            refine ⟨.inr hq30, LH.narrow (SH2 := fun Hq => Mo (Ms [k102]) H102 Hq) (fun Hq hq => (Mo.trL (ks := []) (hq30.mdn []) hq (MIL.cons (MI.app MI.z (nx205) (Nat.le_refl _)) MIL.nil)).nil) ?_⟩
            have hq30 : Mo (Ms [k102]) H102 H102 := Mo.refl _ _
            have nx206 := Nx.refl k102 H102.size
            refine LH.one (i := 4) (by kernel_rfl) ?_
            refine LO.z rfl (Z.litz _ [k4] rfl inf28 rfl rfl rfl (by decide) (by decide) fA_len fA_one rfl) (Wd.u rfl) rfl rfl (fun v105 H105 r105 => ?_)
            obtain ⟨nw105, hs105, ob105, hH105⟩ := r105
            have hzs105 : H105.size = H102.size + 1 := by rw [hH105]; simp
            have df207 := (DF.new (bf_hc.mono hm0.size) : DF _ (H102.size + 1))
            have dj208 : Dj (sb + 1) (H102.size + 1) := Dj.new hso.lt
            have dj209 : Dj (H21.size + 1) (H102.size + 1) := Dj.new it.lt
            have dj210 : Dj (H20.size + 1) (H102.size + 1) := Dj.new hM.lt
            have df211 := (DF.new (bf_fam.mono (by omega)) : DF _ (H102.size + 1))
            have dj212 : Dj kr4 (H102.size + 1) := Dj.new ow.le
            have dj213 : Dj k76 (H102.size + 1) := Dj.new oo.le
            have dj214 : Dj (H0.size + 1) (H102.size + 1) := Dj.new hL.lt
            have dj215 : Dj (HL4.size + 1) (H102.size + 1) := Dj.new vq.lt
            have dj216 : Dj k102 (H102.size + 1) := Dj.new oc.le
            have nx217 : Nx 0 H0.size (H102.size + 1) := Nx.new hm0.size
            have nx218 : Nx 0 H64.size (H102.size + 1) := Nx.new hlm3.size
            have nx219 : Nx 0 H76.size (H102.size + 1) := Nx.new hlm4.size
            have nx220 : Nx 0 H102.size (H102.size + 1) := Nx.new hq30.size
            replace hc := hc.nw hs105
            replace hso := hso.nw hs105
            replace it := it.nw hs105
            replace hM := hM.nw hs105
            replace fam := fun u => (fam u).nw hs105
            replace ow := ow.nw hs105
            replace oo := oo.nw hs105
            replace hL := hL.nw hs105
            replace vq := vq.nw hs105
            replace oc := oc.nw hs105
            replace hm0 := hm0.tr hs105
            replace hlm3 := hlm3.trN hs105
            replace hlm4 := hlm4.trN hs105
            replace hq30 := hq30.trN hs105
            have hz31 := hs105.size
            refine ⟨.inr hq30, LH.narrow (SH2 := fun Hq => Mo (Ms [k102, (H102.size + 1)]) H105 Hq) (fun Hq hq => hq30.trL hq (MIL.cons (MI.app (MI.root (by simp)) (nx206) (Nat.le_refl _)) (MIL.cons (MI.app MI.z (nx220) (Nat.le_refl _)) MIL.nil))) ?_⟩
            have hq30 : Mo (Ms [k102, (H102.size + 1)]) H105 H105 := Mo.refl _ _
            have nx221 := Nx.refl k102 H105.size
            have nx222 := Nx.refl (H102.size + 1) H105.size
            refine LH.one (i := 5) (by kernel_rfl) ?_
            -- call slices.Insert[[]selvage/api.Id,selvage/api.Id]
            refine LO.call rfl rfl Try.call40 rfl (Wd.u rfl) rfl rfl (insert_ct k102 _ _ _ rd4 k4 pos w0 _ oc nw105 (dj216) hpos.1 ⟨ob105, by first | (rw [hH105]; simp; done) | (rw [hs102.same _ (by rw [hH105]; simp) (fun e => e), hH105]; simp)⟩ (by omega)) (fun v106 H106 r106 => ?_)
            have ql223 := hso.lt
            have ql224 := it.lt
            have ql225 := hM.lt
            have ql226 := ow.le
            have ql227 := oo.le
            have ql228 := hL.lt
            have ql229 := vq.lt
            have ql230 := oc.le
            have ql231 := nw105.le
            obtain ⟨v106_, k106, rfl, oc, hkr106, hs106⟩ := r106
            have df232 := DF.app (df193) (bf_hc.mono hm0.size) hkr106
            have dj233 : Dj (sb + 1) k106 := Dj.app (dj194) ql223 hkr106
            have dj234 : Dj (H21.size + 1) k106 := Dj.app (dj195) ql224 hkr106
            have dj235 : Dj (H20.size + 1) k106 := Dj.app (dj196) ql225 hkr106
            have df236 := DF.app (df197) (bf_fam.mono (by omega)) hkr106
            have dj237 : Dj kr4 k106 := Dj.app (dj198) ql226 hkr106
            have dj238 : Dj k76 k106 := Dj.app (dj199) ql227 hkr106
            have dj239 : Dj (H0.size + 1) k106 := Dj.app (dj200) ql228 hkr106
            have dj240 : Dj (HL4.size + 1) k106 := Dj.app (dj201) ql229 hkr106
            have dj241 : Dj (H102.size + 1) k106 := Dj.app (dj216.symm) ql231 hkr106
            have nx242 : Nx 0 H0.size k106 := Nx.tr (nx202) hkr106 hm0.size
            have nx243 : Nx 0 H64.size k106 := Nx.tr (nx203) hkr106 hlm3.size
            have nx244 : Nx 0 H76.size k106 := Nx.tr (nx204) hkr106 hlm4.size
            have nx245 : Nx k102 H105.size k106 := Nx.tr (nx221) hkr106 hq30.size
            replace hc := hc.upL hs106 (DFL.cons df193 DFL.nil)
            replace hso := hso.upL hs106 (DL.cons dj194 DL.nil)
            replace it := it.upL hs106 (DL.cons dj195 DL.nil)
            replace hM := hM.upL hs106 (DL.cons dj196 DL.nil)
            replace fam := fun u => (fam u).upL hs106 (DFL.cons df197 DFL.nil)
            replace ow := ow.upL hs106 (DL.cons dj198 DL.nil)
            replace oo := oo.upL hs106 (DL.cons dj199 DL.nil)
            replace hL := hL.upL hs106 (DL.cons dj200 DL.nil)
            replace vq := vq.upL hs106 (DL.cons dj201 DL.nil)
            replace nw105 := nw105.upL hs106 (DL.cons dj216.symm DL.nil)
            replace hm0 := (Mo.trL (ks := []) (hm0.mdn []) hs106 (MIL.cons (MI.app MI.z (nx202) (Nat.le_refl _)) MIL.nil)).nil
            replace hlm3 := hlm3.trL hs106 (MIL.cons (MI.app MI.z (nx203) (Nat.le_refl _)) MIL.nil)
            replace hlm4 := hlm4.trL hs106 (MIL.cons (MI.app MI.z (nx204) (Nat.le_refl _)) MIL.nil)
            replace hq30 := hq30.trL hs106 (MIL.cons (MI.app (MI.root (by simp)) (nx221) (Nat.le_refl _)) MIL.nil)
            have hz32 := hs106.size
            have hle_oc := oc.le
            refine ⟨.inr hq30, LH.narrow (SH2 := fun Hq => Mo (Ms [k106, (H102.size + 1)]) H106 Hq) (fun Hq hq => hq30.trL hq (MIL.cons (MI.app (MI.root (by simp)) (nx245) (Nat.le_refl _)) (MIL.cons (MI.app (MI.root (by simp)) (nx222) (Nat.le_refl _)) MIL.nil))) ?_⟩
            have hq30 : Mo (Ms [k106, (H102.size + 1)]) H106 H106 := Mo.refl _ _
            have nx246 := Nx.refl k106 H106.size
            have nx247 := Nx.refl (H102.size + 1) H106.size
            refine LH.one (i := 6) (by kernel_rfl) ?_
            refine LO.v rfl (Y.assign rfl rfl) (Wd.u rfl) rfl rfl (.inl rfl) ?_
            refine LH.done (by kernel_rfl) ?_
            refine hK44 _ _ ?_
            refine hK43 _ _ ?_
            refine CW.region ?_
            refine LR.v (Y.addi rfl rfl rfl (by omega)) (Wd.u rfl) rfl rfl ?_
            refine LR.v (Y.move rfl rfl) (Wd.u rfl) rfl rfl ?_
            refine LR.nil ?_
            refine QN.sub (hN40 (j + 1, v106, k106, rd4.take pos ++ k4 :: rd4.drop pos, mput L4 k4 0) _ ?_ ?_) ⟨rfl, rfl, rfl, rfl, rfl, (iv (by omega)), (iv (by omega)), trivial⟩
            · exact ⟨by rw [show (0 : Int) = (n4 : Int) by omega]; exact hL, oc.q, (by omega), hP4.zero hkK.1 hkD (by rw [← hn4]; omega) hpos, (Nx.z (nx244)), dj239, hlm4⟩
            · first | omega | (simp only; omega) | (simp; omega)
          ·
            refine LO.z rfl (Z.litz _ [k4] rfl inf28 rfl rfl rfl (by decide) (by decide) fA_len fA_one rfl) (Wd.u rfl) rfl rfl (fun v105 H105 r105 => ?_)
            obtain ⟨nw105, hs105, ob105, hH105⟩ := r105
            have hzs105 : H105.size = H98.size + 1 := by rw [hH105]; simp
            have df248 := (DF.new (bf_hc.mono hm0.size) : DF _ (H98.size + 1))
            have dj249 : Dj (sb + 1) (H98.size + 1) := Dj.new hso.lt
            have dj250 : Dj (H21.size + 1) (H98.size + 1) := Dj.new it.lt
            have dj251 : Dj (H20.size + 1) (H98.size + 1) := Dj.new hM.lt
            have df252 := (DF.new (bf_fam.mono (by omega)) : DF _ (H98.size + 1))
            have dj253 : Dj kr4 (H98.size + 1) := Dj.new ow.le
            have dj254 : Dj k76 (H98.size + 1) := Dj.new oo.le
            have dj255 : Dj (H0.size + 1) (H98.size + 1) := Dj.new hL.lt
            have dj256 : Dj (HL4.size + 1) (H98.size + 1) := Dj.new vq.lt
            have nx257 : Nx 0 H0.size (H98.size + 1) := Nx.new hm0.size
            have nx258 : Nx 0 H64.size (H98.size + 1) := Nx.new hlm3.size
            have nx259 : Nx 0 H76.size (H98.size + 1) := Nx.new hlm4.size
            have nx260 : Nx 0 H98.size (H98.size + 1) := Nx.new hq30.size
            replace hc := hc.nw hs105
            replace hso := hso.nw hs105
            replace it := it.nw hs105
            replace hM := hM.nw hs105
            replace fam := fun u => (fam u).nw hs105
            replace ow := ow.nw hs105
            replace oo := oo.nw hs105
            replace hL := hL.nw hs105
            replace vq := vq.nw hs105
            replace hm0 := hm0.tr hs105
            replace hlm3 := hlm3.trN hs105
            replace hlm4 := hlm4.trN hs105
            replace hq30 := hq30.tr hs105
            have hz33 := hs105.size
            refine ⟨.inr hq30, LH.narrow (SH2 := fun Hq => Mo (Ms [(H98.size + 1)]) H105 Hq) (fun Hq hq => (Mo.trL (ks := []) (hq30.mdn []) hq (MIL.cons (MI.app MI.z (nx260) (Nat.le_refl _)) MIL.nil)).nil) ?_⟩
            have hq30 : Mo (Ms [(H98.size + 1)]) H105 H105 := Mo.refl _ _
            have nx261 := Nx.refl (H98.size + 1) H105.size
            refine LH.one (i := 1) (by kernel_rfl) ?_
            -- call slices.Clone[[]selvage/api.Id,selvage/api.Id]
            refine LO.call rfl rfl Try.call37 rfl (Wd.u rfl) rfl rfl (iclone_ct _ rd4 w0 _ ow.rd.any (by omega)) (fun v102 H102 r102 => ?_)
            obtain ⟨s102, k102, rfl, oc, hk102, hs102⟩ := r102
            have df262 := DF.app (DF.z) (bf_hc.mono hm0.size) hk102
            have dj263 : Dj (sb + 1) k102 := Dj.app (Dj.z) hso.lt hk102
            have dj264 : Dj (H21.size + 1) k102 := Dj.app (Dj.z) it.lt hk102
            have dj265 : Dj (H20.size + 1) k102 := Dj.app (Dj.z) hM.lt hk102
            have df266 := DF.app (DF.z) (bf_fam.mono (by omega)) hk102
            have dj267 : Dj kr4 k102 := Dj.app (Dj.z) ow.le hk102
            have dj268 : Dj k76 k102 := Dj.app (Dj.z) oo.le hk102
            have dj269 : Dj (H0.size + 1) k102 := Dj.app (Dj.z) hL.lt hk102
            have dj270 : Dj (HL4.size + 1) k102 := Dj.app (Dj.z) vq.lt hk102
            have dj271 : Dj (H98.size + 1) k102 := Dj.app (Dj.z) nw105.le hk102
            have nx272 : Nx 0 H0.size k102 := Nx.tr (Nx.refl 0 _) hk102 hm0.size
            have nx273 : Nx 0 H64.size k102 := Nx.tr (Nx.refl 0 _) hk102 hlm3.size
            have nx274 : Nx 0 H76.size k102 := Nx.tr (Nx.refl 0 _) hk102 hlm4.size
            have nx275 : Nx 0 H105.size k102 := Nx.tr (Nx.refl 0 _) hk102 hq30.size
            replace hc := hc.nw hs102
            replace hso := hso.nw hs102
            replace it := it.nw hs102
            replace hM := hM.nw hs102
            replace fam := fun u => (fam u).nw hs102
            replace ow := ow.nw hs102
            replace oo := oo.nw hs102
            replace hL := hL.nw hs102
            replace vq := vq.nw hs102
            replace nw105 := nw105.nw hs102
            replace hm0 := hm0.tr hs102
            replace hlm3 := hlm3.trN hs102
            replace hlm4 := hlm4.trN hs102
            replace hq30 := hq30.trN hs102
            have hz34 := hs102.size
            have hle_oc := oc.le
            refine ⟨.inr hq30, LH.narrow (SH2 := fun Hq => Mo (Ms [(H98.size + 1), k102]) H102 Hq) (fun Hq hq => hq30.trL hq (MIL.cons (MI.app (MI.root (by simp)) (nx261) (Nat.le_refl _)) (MIL.cons (MI.app MI.z (nx275) (Nat.le_refl _)) MIL.nil))) ?_⟩
            have hq30 : Mo (Ms [(H98.size + 1), k102]) H102 H102 := Mo.refl _ _
            have nx276 := Nx.refl (H98.size + 1) H102.size
            have nx277 := Nx.refl k102 H102.size
            refine LH.one (i := 5) (by kernel_rfl) ?_
            -- call slices.Insert[[]selvage/api.Id,selvage/api.Id]
            refine LO.call rfl rfl Try.call40 rfl (Wd.u rfl) rfl rfl (insert_ct k102 _ _ _ rd4 k4 pos w0 _ oc nw105 (dj271.symm) hpos.1 ⟨ob105, by first | (rw [hH105]; simp; done) | (rw [hs102.same _ (by rw [hH105]; simp) (fun e => e), hH105]; simp)⟩ (by omega)) (fun v106 H106 r106 => ?_)
            have ql278 := hso.lt
            have ql279 := it.lt
            have ql280 := hM.lt
            have ql281 := ow.le
            have ql282 := oo.le
            have ql283 := hL.lt
            have ql284 := vq.lt
            have ql285 := nw105.le
            have ql286 := oc.le
            obtain ⟨v106_, k106, rfl, oc, hkr106, hs106⟩ := r106
            have df287 := DF.app (df262) (bf_hc.mono hm0.size) hkr106
            have dj288 : Dj (sb + 1) k106 := Dj.app (dj263) ql278 hkr106
            have dj289 : Dj (H21.size + 1) k106 := Dj.app (dj264) ql279 hkr106
            have dj290 : Dj (H20.size + 1) k106 := Dj.app (dj265) ql280 hkr106
            have df291 := DF.app (df266) (bf_fam.mono (by omega)) hkr106
            have dj292 : Dj kr4 k106 := Dj.app (dj267) ql281 hkr106
            have dj293 : Dj k76 k106 := Dj.app (dj268) ql282 hkr106
            have dj294 : Dj (H0.size + 1) k106 := Dj.app (dj269) ql283 hkr106
            have dj295 : Dj (HL4.size + 1) k106 := Dj.app (dj270) ql284 hkr106
            have dj296 : Dj (H98.size + 1) k106 := Dj.app (dj271) ql285 hkr106
            have nx297 : Nx 0 H0.size k106 := Nx.tr (nx272) hkr106 hm0.size
            have nx298 : Nx 0 H64.size k106 := Nx.tr (nx273) hkr106 hlm3.size
            have nx299 : Nx 0 H76.size k106 := Nx.tr (nx274) hkr106 hlm4.size
            have nx300 : Nx k102 H102.size k106 := Nx.tr (nx277) hkr106 hq30.size
            replace hc := hc.upL hs106 (DFL.cons df262 DFL.nil)
            replace hso := hso.upL hs106 (DL.cons dj263 DL.nil)
            replace it := it.upL hs106 (DL.cons dj264 DL.nil)
            replace hM := hM.upL hs106 (DL.cons dj265 DL.nil)
            replace fam := fun u => (fam u).upL hs106 (DFL.cons df266 DFL.nil)
            replace ow := ow.upL hs106 (DL.cons dj267 DL.nil)
            replace oo := oo.upL hs106 (DL.cons dj268 DL.nil)
            replace hL := hL.upL hs106 (DL.cons dj269 DL.nil)
            replace vq := vq.upL hs106 (DL.cons dj270 DL.nil)
            replace nw105 := nw105.upL hs106 (DL.cons dj271 DL.nil)
            replace hm0 := (Mo.trL (ks := []) (hm0.mdn []) hs106 (MIL.cons (MI.app MI.z (nx272) (Nat.le_refl _)) MIL.nil)).nil
            replace hlm3 := hlm3.trL hs106 (MIL.cons (MI.app MI.z (nx273) (Nat.le_refl _)) MIL.nil)
            replace hlm4 := hlm4.trL hs106 (MIL.cons (MI.app MI.z (nx274) (Nat.le_refl _)) MIL.nil)
            replace hq30 := hq30.trL hs106 (MIL.cons (MI.app (MI.root (by simp)) (nx277) (Nat.le_refl _)) MIL.nil)
            have hz35 := hs106.size
            have hle_oc := oc.le
            refine ⟨.inr hq30, LH.narrow (SH2 := fun Hq => Mo (Ms [(H98.size + 1), k106]) H106 Hq) (fun Hq hq => hq30.trL hq (MIL.cons (MI.app (MI.root (by simp)) (nx276) (Nat.le_refl _)) (MIL.cons (MI.app (MI.root (by simp)) (nx300) (Nat.le_refl _)) MIL.nil))) ?_⟩
            have hq30 : Mo (Ms [(H98.size + 1), k106]) H106 H106 := Mo.refl _ _
            have nx301 := Nx.refl (H98.size + 1) H106.size
            have nx302 := Nx.refl k106 H106.size
            refine LH.one (i := 6) (by kernel_rfl) ?_
            refine LO.v rfl (Y.assign rfl rfl) (Wd.u rfl) rfl rfl (.inl rfl) ?_
            refine LH.done (by kernel_rfl) ?_
            refine hK44 _ _ ?_
            refine hK43 _ _ ?_
            refine CW.region ?_
            refine LR.v (Y.addi rfl rfl rfl (by omega)) (Wd.u rfl) rfl rfl ?_
            refine LR.v (Y.move rfl rfl) (Wd.u rfl) rfl rfl ?_
            refine LR.nil ?_
            refine QN.sub (hN40 (j + 1, v106, k106, rd4.take pos ++ k4 :: rd4.drop pos, mput L4 k4 0) _ ?_ ?_) ⟨rfl, rfl, rfl, rfl, rfl, (iv (by omega)), (iv (by omega)), trivial⟩
            · exact ⟨by rw [show (0 : Int) = (n4 : Int) by omega]; exact hL, oc.q, (by omega), hP4.zero hkK.1 hkD (by rw [← hn4]; omega) hpos, (Nx.z (nx299)), dj294, hlm4⟩
            · first | omega | (simp only; omega) | (simp; omega)
        ·
          refine CW.skip ?_
          refine hK44 _ _ ?_
          refine hK43 _ _ ?_
          refine CW.region ?_
          refine LR.v (Y.addi rfl rfl rfl (by omega)) (Wd.u rfl) rfl rfl ?_
          refine LR.v (Y.move rfl rfl) (Wd.u rfl) rfl rfl ?_
          refine LR.nil ?_
          refine QN.sub (hN40 (j + 1, vr4, kr4, rd4, mput L4 k4 (n4 : Int)) _ ?_ ?_) ⟨rfl, rfl, rfl, rfl, rfl, (iv (by omega)), (iv (by omega)), trivial⟩
          · exact ⟨hL, ow, (by omega), hP4.less hkK.1 hn4.symm (by omega), nx180, dj179, hlm4⟩
          · first | omega | (simp only; omega) | (simp; omega)
      ·
        have hje : j = (ch i).length := by omega
        rw [hje, List.drop_length] at hP4
        refine CW.exit (hE42 (.exit 6) nofun _ _ (hE40 (.exit 6) nofun _ _ (hX39 _ _ ?_)))
        refine hK34 _ _ ?_
        have hPn := hP2.next hP3
        have hDl2 := nodup_le hPn.dnd hPn.dsub
        rw [List.length_append, List.length_map, List.length_singleton] at hDl2
        refine QN.sub (hN31 (vr4, kr4, rd4, v76, k76, D ++ [i], L4) _ ?_ ?_) ⟨rfl, rfl, rfl, rfl, trivial⟩
        · exact ⟨hL, ow, oo, hPn, hP4, nx178, nx170, dj179, dj165, dj176.symm, hlm3⟩
        · simp <;> omega
    ·
      have hrd : rd3 = [] := List.eq_nil_of_length_eq_zero (by omega)
      rw [hrd] at hP3
      obtain ⟨s8, hs8⟩ : ∃ s : SV, vo = s.v := ⟨toSV vo, oo.sv.symm⟩
      refine CW.exit (hE32 (.exit 4) nofun _ _ (hE31 (.exit 4) nofun _ _ (hX30 _ _ ?_)))
      refine hK29 _ _ ?_
      refine CW.seq (fun K49 hK49 hE49 => ?_)
      refine CW.region ?_
      refine LR.v (Y.move rfl rfl) (Wd.u rfl) rfl rfl ?_
      refine LR.v (Y.assign rfl rfl) (Wd.u rfl) rfl rfl ?_
      refine LR.nil ?_
      refine hK49 _ _ ?_
      refine CW.ret (hret .ret (.inr rfl) _ _ _ (res1 rfl rfl) ?_)
      exact ⟨s8, ko, D, hs8, by rw [← hs8]; exact oo, nx133, hP2.done hP3 hac, hm0⟩

end Go.Proofs.Ytepdhokpfecdnaa.GraH
