/-
  Contracts of functions of the program, and plain laws: put together of several texts.
-/
import Derived.Test.YtepdhokpfecdnaaGb
import Derived.RangeFuncLeaves
import Derived.RangeFuncRecord
import Derived.RangeFuncSeq
import Derived.TacticsIn
/-
  Commits in their order.
-/
namespace Go.Proofs.Ytepdhokpfecdnaa.GraH
open Go.Proofs.Ytepdhokpfecdnaa.E Go.RowKit Go.Proofs.Ytepdhokpfecdnaa.GraA Go.Proofs.Ytepdhokpfecdnaa.GraB Go.Proofs.Ytepdhokpfecdnaa.GraC Go.Proofs.Ytepdhokpfecdnaa.GraD Go.Proofs.Ytepdhokpfecdnaa.GraE Go.Proofs.Ytepdhokpfecdnaa.GraF Go.Proofs.Ytepdhokpfecdnaa.GraG
set_option maxRecDepth 20000
set_option linter.unusedVariables false
set_option linter.unusedSimpArgs false
set_option linter.unusedSectionVars false
set_option maxRecDepth 100000 in
theorem inf28 : Inf Try.prog 28 30 32 32 := ⟨Try.underlying28, _, _, rfl, rfl, rfl, rfl, rfl⟩

theorem ment_old {κ β : Type} [DecidableEq κ] {m : List (κ × β)} {k : κ} {z : β} (h : (mget m k).isSome = true) : ment m k z = m := if_pos h
theorem Qr.of72 {k : Nat} {H : Heap} {v v2 : Value} {l : List Ide} {F : Nat → Prop} (h : Qr k H fA 32 v l) {i : Ide} {r : List Ide} (e : l = i :: r) (h2 : Rd (fun b => b + 1 = k) H fA 32 v2 ((l.take l.length).drop 1)) : Qr k H fA 32 v2 r := by
  subst e
  rw [List.take_length] at h2
  exact ⟨h2, h.le⟩

set_option maxHeartbeats 8000000 in
theorem order_ct (F : Nat → Prop) (vc : Value) (m : List (Ide × Value)) (pa : Ide → List Ide) (sb : Nat) (mm : List (Ide × Int)) (rk : Ide → Nat) (w0 : World) (H0 : Heap)
    (hc : Cm F H0 vc m pa) (bf_hc : BF F H0.size) (hco : Cok m pa) (hso : Mp H0 vA (Value.int .i64) sb mm) (hmm : mm.length ≤ 5000) (hac : ∀ k, ∀ p ∈ pa k, rk p < rk k) :
    Ct Try.prog w0 29 #[vc, .map (some sb)] H0 (fun r H2 => ∃ s : SV, ∃ k : Nat, ∃ out : List Ide, r = s.v ∧ (Ow k 30 H2 fA 32 s.v out) ∧ (Nx 0 H0.size k) ∧ (Topo pa (mm.map (·.1)) out) ∧ Nw H0 H2) := by
  refine Ct.enter (args := [vc, .map (some sb)]) Try.func29 rfl rfl rfl ?_
  intro Q0 hret
  have hm0 : Nw H0 H0 := Mo.refl _ _
  have nx_hm0_hso := Nx.refl (sb + 1) H0.size
  have hlt_hso := hso.lt
  refine CW.seq (fun K1 hK1 hE1 => ?_)
  refine CW.region ?_
  refine LR.v (Y.assign rfl rfl) (Wd.u rfl) rfl rfl ?_
  refine LR.nil ?_
  refine hK1 _ _ ?_
  refine CW.seq (fun K2 hK2 hE2 => ?_)
  refine CW.region ?_
  refine LR.z (Z.makeMp vA (Value.int .i64) rfl) (Wd.u rfl) rfl rfl (fun v20 H20 r20 => ?_)
  obtain ⟨rfl, hL, hs20, ob20, hH20⟩ := r20
  have hzs20 : H20.size = H0.size + 1 := by rw [hH20]; simp
  have df1 := (DF.new (bf_hc.mono hm0.size) : DF _ (H0.size + 1))
  have dj2 : Dj (sb + 1) (H0.size + 1) := Dj.new hso.lt
  have nx3 : Nx 0 H0.size (H0.size + 1) := Nx.new hm0.size
  replace hc := hc.nw hs20
  replace hso := hso.nw hs20
  replace hm0 := hm0.tr hs20
  have hz1 := hs20.size
  have hlt_hL := hL.lt
  refine LR.v (Y.assign rfl rfl) (Wd.u rfl) rfl rfl ?_
  refine LR.nil ?_
  refine hK2 _ _ ?_
  refine CW.seq (fun K3 hK3 hE3 => ?_)
  refine CW.region ?_
  refine LR.z (Z.makeMp vA (id : Value → Value) rfl) (Wd.u rfl) rfl rfl (fun v21 H21 r21 => ?_)
  obtain ⟨rfl, hM, hs21, ob21, hH21⟩ := r21
  have hzs21 : H21.size = H20.size + 1 := by rw [hH21]; simp
  have df4 := (DF.new (bf_hc.mono hm0.size) : DF _ (H20.size + 1))
  have dj5 : Dj (sb + 1) (H20.size + 1) := Dj.new hso.lt
  have dj6 : Dj (H0.size + 1) (H20.size + 1) := Dj.new hL.lt
  have nx7 : Nx 0 H0.size (H20.size + 1) := Nx.new hm0.size
  replace hc := hc.nw hs21
  replace hso := hso.nw hs21
  replace hL := hL.nw hs21
  replace hm0 := hm0.tr hs21
  have hz2 := hs21.size
  have hlt_hM := hM.lt
  refine LR.v (Y.assign rfl rfl) (Wd.u rfl) rfl rfl ?_
  refine LR.nil ?_
  refine hK3 _ _ ?_
  refine CW.seq (fun K4 hK4 hE4 => ?_)
  refine CW.region ?_
  refine LR.v (Y.assign rfl rfl) (Wd.u rfl) rfl rfl ?_
  refine LR.v (Y.assign rfl rfl) (Wd.u rfl) rfl rfl ?_
  refine LR.nil ?_
  refine hK4 _ _ ?_
  refine CW.seq (fun K5 hK5 hE5 => ?_)
  refine CW.seq (fun K6 hK6 hE6 => ?_)
  refine CW.region ?_
  refine LR.v (Y.move rfl rfl) (Wd.u rfl) rfl rfl ?_
  obtain ⟨es, ck, hso⟩ := hso.raw
  refine LR.z (Z.rangeA hso rfl Try.runUnderlying72 rfl) (Wd.u rfl) rfl rfl (fun v23 H23 r23 => ?_)
  obtain ⟨rfl, it, hs23, ob23, hH23⟩ := r23
  have hzs23 : H23.size = H21.size + 1 := by rw [hH23]; simp
  have df8 := (DF.new (bf_hc.mono hm0.size) : DF _ (H21.size + 1))
  have dj9 : Dj (sb + 1) (H21.size + 1) := Dj.new hso.lt
  have dj10 : Dj (H0.size + 1) (H21.size + 1) := Dj.new hL.lt
  have dj11 : Dj (H20.size + 1) (H21.size + 1) := Dj.new hM.lt
  have nx12 : Nx 0 H0.size (H21.size + 1) := Nx.new hm0.size
  replace hc := hc.nw hs23
  replace hso := hso.nw hs23
  replace hL := hL.nw hs23
  replace hM := hM.nw hs23
  replace hm0 := hm0.tr hs23
  have hz3 := hs23.size
  have hlt_it := it.lt
  refine LR.nil ?_
  refine hK6 _ _ ?_
  refine CW.block (fun K7 hK7 hX7 hE7 => ?_)
  refine CW.loop (fun (s_ : (List Ide) × (List (Ide × Int)) × (List (Ide × Value)) × (SV) × (Nat) × (List Ide) × (Ide → List Ide) × (Nat → Prop)) => match s_ with | (dn, L, mc, o, kr, rd, ch, G) => [(0, vc), (1, .map (some sb)), (5, .map (some H0.size)), (6, .map (some H20.size)), (7, o.v), (8, .slice none 0 0), (23, .pointer (some ⟨H21.size, 0, none⟩))])
    (fun (s_ : (List Ide) × (List (Ide × Int)) × (List (Ide × Value)) × (SV) × (Nat) × (List Ide) × (Ide → List Ide) × (Nat → Prop)) (H : Heap) => match s_ with | (dn, L, mc, o, kr, rd, ch, G) => (Itr H H21.size sb vA es ck (dn)) ∧ (Mp H vA (Value.int .i64) H0.size L) ∧ (Mp H vA (id : Value → Value) H20.size mc) ∧ (Ow kr 30 H fA 32 o.v rd) ∧ (∀ u : Unit, Fam G 30 H fA 32 (vOf mc) ch) ∧ (BF G H.size) ∧ (DF G (H21.size + 1)) ∧ (DF G (H0.size + 1)) ∧ (DF G (H20.size + 1)) ∧ (DF G (kr)) ∧ (∀ b, G b → H0.size ≤ b) ∧ (P1 pa (mm.map (·.1)) dn L rd ch) ∧ (Nx 0 H23.size kr) ∧ (Dj (H21.size + 1) kr) ∧ (Dj (H0.size + 1) kr) ∧ (Dj (H20.size + 1) kr) ∧ Mo (fun c => H0.size ≤ c) H23 H)
    (fun (s_ : (List Ide) × (List (Ide × Int)) × (List (Ide × Value)) × (SV) × (Nat) × (List Ide) × (Ide → List Ide) × (Nat → Prop)) => match s_ with | (dn, L, mc, o, kr, rd, ch, G) => mm.length - dn.length) ([], [], [], ⟨none, 0, 0⟩, 0, [], fun _ => [], fun _ => False) ⟨rfl, rfl, rfl, rfl, rfl, rfl, rfl, trivial⟩ ?_ ?_
  ·
    exact ⟨it, hL, hM, Ow.nil fA_len fA_one, (fun u => Fam.none fA_len fA_one), (fun b e => e.elim), (fun b e => e.elim), (fun b e => e.elim), (fun b e => e.elim), (fun b e => e.elim), (fun b e => e.elim), P1.start _ _, Nx.refl _ _, Dj.z, Dj.z, Dj.z, Mo.refl _ _⟩
  rintro ⟨dn, L, mc, o, kr, rd, ch, G⟩ HL1 hI1 K8 hN8 hE8
  obtain ⟨it, hL, hM, ow, fam, bf_fam, fgit, fghL, fghM, fgow, hG, hP, nxl_ow, dj_it_ow, dj_hL_ow, dj_hM_ow, hlm1⟩ := hI1
  have df13 := DF.app (DF.z) (bf_hc.mono hm0.size) nxl_ow
  have dj14 : Dj (sb + 1) kr := Dj.app (Dj.z) hso.lt nxl_ow
  have nx15 : Nx 0 H0.size kr := Nx.tr (Nx.refl 0 _) nxl_ow hm0.size
  replace hc := hc.upA hlm1 bf_hc
  replace hso := hso.upA hlm1 hlt_hso
  replace hm0 := hm0.trA hlm1 (Nat.le_refl _)
  have hz4 := hlm1.size
  have hle_ow := ow.le
  have dj16 := dj_it_ow
  have dj17 := dj_hL_ow
  have dj18 := dj_hM_ow
  have nx_hlm1_it := Nx.refl (H21.size + 1) H23.size
  have nx_hlm1_hL := Nx.refl (H0.size + 1) H23.size
  have nx_hlm1_hM := Nx.refl (H20.size + 1) H23.size
  have nx19 := nxl_ow
  have hdl := hP.dlen
  rw [List.length_map] at hdl
  refine CW.seq (fun K9 hK9 hE9 => ?_)
  refine CW.region ?_
  refine LR.z (Z.nextA it hso keyId.inj rfl rfl) (Wd.u rfl) rfl rfl (fun v24 H24 r24 => ?_)
  obtain ⟨qb, x, y, dn2, rfl, it, hT24, hF24, hs24⟩ := r24
  replace hs24 := hs24.md1
  replace hc := hc.upL hs24 (DFL.cons df8 DFL.nil)
  replace hso := hso.upL hs24 (DL.cons dj9 DL.nil)
  replace hL := hL.upL hs24 (DL.cons dj10 DL.nil)
  replace hM := hM.upL hs24 (DL.cons dj11 DL.nil)
  replace ow := ow.upL hs24 (DL.cons dj16.symm DL.nil)
  replace fam := fun u => (fam u).upL hs24 (DFL.cons fgit DFL.nil)
  replace hm0 := (Mo.trL (ks := []) (hm0.mdn []) hs24 (MIL.cons (MI.app MI.z (nx12) (Nat.le_refl _)) MIL.nil)).nil
  replace hlm1 := Mo.trB hlm1 hs24 (BL.cons (nx12) BL.nil)
  have hz5 := hs24.size
  refine LR.v (Y.ext0 rfl rfl) (Wd.u rfl) rfl rfl ?_
  refine LR.nil ?_
  refine hK9 _ _ ?_
  refine CW.seq (fun K10 hK10 hE10 => ?_)
  refine CW.cond rfl (fun c25 => ?_) (fun c25 => ?_)
  ·
    obtain ⟨hxy, hnd, hdn2⟩ := hT24 c25
    rw [hdn2] at it
    have hxK : x ∈ mm.map (·.1) := List.mem_map.2 ⟨_, hxy, rfl⟩
    refine CW.skip ?_
    refine hK10 _ _ ?_
    refine CW.block (fun K11 hK11 hX11 hE11 => ?_)
    refine CW.seq (fun K12 hK12 hE12 => ?_)
    refine CW.region ?_
    refine LR.v (Y.entryA it hso keyId.inj hxy rfl rfl) (Wd.u rfl) rfl rfl ?_
    refine LR.v (Y.extract rfl rfl rfl) (Wd.u rfl) rfl rfl ?_
    refine LR.z (Z.allocv rfl Try.zeroValue30) (Wd.u rfl) rfl rfl (fun v9 H9 r9 => ?_)
    obtain ⟨rfl, vi, hs9, ob9, hH9⟩ := r9
    have hzs9 : H9.size = H24.size + 1 := by rw [hH9]; simp
    have df20 := (DF.new (bf_hc.mono hm0.size) : DF _ (H24.size + 1))
    have dj21 : Dj (sb + 1) (H24.size + 1) := Dj.new hso.lt
    have dj22 : Dj (H21.size + 1) (H24.size + 1) := Dj.new it.lt
    have dj23 : Dj (H0.size + 1) (H24.size + 1) := Dj.new hL.lt
    have dj24 : Dj (H20.size + 1) (H24.size + 1) := Dj.new hM.lt
    have dj25 : Dj kr (H24.size + 1) := Dj.new ow.le
    have df26 := (DF.new (bf_fam.mono (by omega)) : DF _ (H24.size + 1))
    have nx27 : Nx 0 H0.size (H24.size + 1) := Nx.new hm0.size
    have nx28 : Nx 0 H23.size (H24.size + 1) := Nx.new hlm1.size
    replace hc := hc.nw hs9
    replace hso := hso.nw hs9
    replace it := it.nw hs9
    replace hL := hL.nw hs9
    replace hM := hM.nw hs9
    replace ow := ow.nw hs9
    replace fam := fun u => (fam u).nw hs9
    replace hm0 := hm0.tr hs9
    replace hlm1 := Mo.trBN hlm1 hs9
    have hz6 := hs9.size
    replace vi : Var 30 H9 H24.size (fA Zid) := vi
    refine LR.s (S.var vi (_) (fA (x)) rfl rfl rfl rfl (fA_one _) Try.sizeOf30 (fA_len _) (by first | decide | simp [fA_len]) ((splice_all2 (by first | exact (fA_len _).symm | rfl | exact (fA_len _).trans (fA_len _).symm)))) (Wd.u rfl) rfl (fun H6_3 r6_3 => ?_)
    obtain ⟨vi, hs6_3⟩ := r6_3
    replace hs6_3 := hs6_3.md1
    replace hc := hc.upL hs6_3 (DFL.cons df20 DFL.nil)
    replace hso := hso.upL hs6_3 (DL.cons dj21 DL.nil)
    replace it := it.upL hs6_3 (DL.cons dj22 DL.nil)
    replace hL := hL.upL hs6_3 (DL.cons dj23 DL.nil)
    replace hM := hM.upL hs6_3 (DL.cons dj24 DL.nil)
    replace ow := ow.upL hs6_3 (DL.cons dj25 DL.nil)
    replace fam := fun u => (fam u).upL hs6_3 (DFL.cons df26 DFL.nil)
    replace hm0 := (Mo.trL (ks := []) (hm0.mdn []) hs6_3 (MIL.cons (MI.app MI.z (nx27) (Nat.le_refl _)) MIL.nil)).nil
    replace hlm1 := Mo.trB hlm1 hs6_3 (BL.cons (nx27) BL.nil)
    have hz7 := hs6_3.size
    refine LR.nil ?_
    refine hK12 _ _ ?_
    refine CW.seq (fun K13 hK13 hE13 => ?_)
    refine CW.region ?_
    refine LR.v (Y.assign rfl rfl) (Wd.u rfl) rfl rfl ?_
    refine LR.nil ?_
    refine hK13 _ _ ?_
    refine CW.seq (fun K14 hK14 hE14 => ?_)
    refine CW.seq (fun K15 hK15 hE15 => ?_)
    refine CW.region ?_
    refine LR.v (Y.move rfl rfl) (Wd.u rfl) rfl rfl ?_
    refine LR.v (Y.loadN vi.pt rfl Try.isAgg30 Try.sizeOf30 (fA_len _) rfl) (Wd.u rfl) rfl rfl ?_
    refine LR.v (Y.lookupA hc.mo keyId rfl Try.runUnderlying69 Try.zeroValue28 rfl rfl) (Wd.u rfl) rfl rfl ?_
    refine LR.v (Y.len (hc.row x) rfl Try.runUnderlying28 rfl) (Wd.u rfl) rfl rfl ?_
    refine LR.v (Y.move rfl rfl) (Wd.u rfl) rfl rfl ?_
    refine LR.nil ?_
    refine hK15 _ _ ?_
    refine CW.block (fun K16 hK16 hX16 hE16 => ?_)
    refine CW.loop (fun (s_ : (Nat) × (Nat) × (List (Ide × Value)) × (Ide → List Ide) × (Nat → Prop)) => match s_ with | (q, cn, mc2, ch2, G2) => [(0, vc), (1, .map (some sb)), (5, .map (some H0.size)), (6, .map (some H20.size)), (7, o.v), (8, .slice none 0 0), (9, .pointer (some ⟨H24.size, 0, none⟩)), (10, .int .i64 (cn : Int)), (23, .pointer (some ⟨H21.size, 0, none⟩)), (30, (id ((mget m x).getD nilS) : Value)), (31, .int .i64 ((pa x).length : Int)), (32, .int .i64 (q : Int))])
      (fun (s_ : (Nat) × (Nat) × (List (Ide × Value)) × (Ide → List Ide) × (Nat → Prop)) (H : Heap) => match s_ with | (q, cn, mc2, ch2, G2) => (Itr H H21.size sb vA es ck (dn ++ [x])) ∧ (Mp H vA (Value.int .i64) H0.size L) ∧ (Mp H vA (id : Value → Value) H20.size mc2) ∧ (Ow kr 30 H fA 32 o.v rd) ∧ (Var 30 H H24.size (fA x)) ∧ (∀ u : Unit, Fam G2 30 H fA 32 (vOf mc2) ch2) ∧ (BF G2 H.size) ∧ (DF G2 (H21.size + 1)) ∧ (DF G2 (H0.size + 1)) ∧ (DF G2 (H20.size + 1)) ∧ (DF G2 (kr)) ∧ (DF G2 (H24.size + 1)) ∧ (∀ b, G2 b → H0.size ≤ b) ∧ (q ≤ (pa x).length) ∧ (P1b pa (mm.map (·.1)) dn x q cn ch2) ∧ (Nx kr H6_3.size kr) ∧ (Dj (H21.size + 1) kr) ∧ (Dj (H0.size + 1) kr) ∧ (Dj (H20.size + 1) kr) ∧ (Dj kr (H24.size + 1)) ∧ Mo (fun c => H0.size ≤ c) H6_3 H)
      (fun (s_ : (Nat) × (Nat) × (List (Ide × Value)) × (Ide → List Ide) × (Nat → Prop)) => match s_ with | (q, cn, mc2, ch2, G2) => (pa x).length - q) (0, 0, mc, ch, G) ⟨rfl, rfl, rfl, rfl, rfl, rfl, rfl, rfl, rfl, rfl, rfl, rfl, trivial⟩ ?_ ?_
    ·
      exact ⟨it, hL, hM, ow, vi, fam, (bf_fam.mono (by omega)), (fgit), (fghL), (fghM), (fgow), (df26), hG, (by omega), P1b.start hP hnd, Nx.refl _ _, dj16, dj17, dj18, dj25, Mo.refl _ _⟩
    rintro ⟨q, cn, mc2, ch2, G2⟩ HL2 hI2 K17 hN17 hE17
    obtain ⟨it, hL, hM, ow, vi, fam2, bf_fam2, fg2it, fg2hL, fg2hM, fg2ow, fg2vi, hG2, hq, hP2, nxl_ow, dj_it_ow, dj_hL_ow, dj_hM_ow, dj_ow_vi, hlm2⟩ := hI2
    have df29 := DF.app (df13) (bf_hc.mono hm0.size) nxl_ow
    have dj30 : Dj (sb + 1) kr := Dj.app (dj14) hso.lt nxl_ow
    have df31 := DF.app (fgow) (bf_fam.mono (by omega)) nxl_ow
    have nx32 : Nx 0 H0.size kr := Nx.tr (nx15) nxl_ow hm0.size
    have nx33 : Nx 0 H23.size kr := Nx.tr (nx19) nxl_ow hlm1.size
    replace hc := hc.upA hlm2 bf_hc
    replace hso := hso.upA hlm2 hlt_hso
    -- LOST fam
    replace hm0 := hm0.trA hlm2 (Nat.le_refl _)
    replace hlm1 := Mo.trBB hlm1 hlm2
    have hz8 := hlm2.size
    have hle_ow := ow.le
    have dj34 := dj_it_ow
    have dj35 := dj_hL_ow
    have dj36 := dj_hM_ow
    have dj37 := dj_ow_vi
    have nx_hlm2_it := Nx.refl (H21.size + 1) H6_3.size
    have nx_hlm2_hL := Nx.refl (H0.size + 1) H6_3.size
    have nx_hlm2_hM := Nx.refl (H20.size + 1) H6_3.size
    have nx38 := nxl_ow
    have nx_hlm2_vi := Nx.refl (H24.size + 1) H6_3.size
    have hcl := hP2.chl
    have hpl := hco.pl x
    have hcnl : cn ≤ q := by rw [hP2.cn_]; exact Nat.le_trans (cntI_le _ _ _) (by simp; omega)
    refine CW.seq (fun K18 hK18 hE18 => ?_)
    refine CW.region ?_
    refine LR.v (Y.lss rfl rfl rfl) (Wd.u rfl) rfl rfl ?_
    refine LR.nil ?_
    refine hK18 _ _ ?_
    refine CW.seq (fun K19 hK19 hE19 => ?_)
    refine CW.condp rfl (fun c33 => ?_) (fun c33 => ?_)
    ·
      refine CW.skip ?_
      refine hK19 _ _ ?_
      refine CW.seq (fun K20 hK20 hE20 => ?_)
      refine CW.block (fun K21 hK21 hX21 hE21 => ?_)
      refine CW.seq (fun K22 hK22 hE22 => ?_)
      refine CW.region ?_
      refine LR.e (g := fun ad => .pointer (some ad)) (Y.indexAddrF (hc.row x) (q) rfl Try.runUnderlying28 Try.sizeOf30 rfl rfl (by first | rfl | omega) (by omega)) (Wd.u rfl) rfl rfl (fun ad34 pt34 => ?_)
      have bf_pt34 := bf_hc
      refine LR.v (Y.loadN pt34.pt rfl Try.isAgg30 Try.sizeOf30 (fA_len _) rfl) (Wd.u rfl) rfl rfl ?_
      refine LR.z (Z.allocv rfl Try.zeroValue30) (Wd.u rfl) rfl rfl (fun v12 H12 r12 => ?_)
      obtain ⟨rfl, vj, hs12, ob12, hH12⟩ := r12
      have hzs12 : H12.size = HL2.size + 1 := by rw [hH12]; simp
      have df39 := (DF.new (bf_hc.mono hm0.size) : DF _ (HL2.size + 1))
      have dj40 : Dj (sb + 1) (HL2.size + 1) := Dj.new hso.lt
      have dj41 : Dj kr (HL2.size + 1) := Dj.new ow.le
      have dj42 : Dj (H21.size + 1) (HL2.size + 1) := Dj.new it.lt
      have dj43 : Dj (H0.size + 1) (HL2.size + 1) := Dj.new hL.lt
      have dj44 : Dj (H20.size + 1) (HL2.size + 1) := Dj.new hM.lt
      have dj45 : Dj (H24.size + 1) (HL2.size + 1) := Dj.new vi.lt
      have df46 := (DF.new (bf_fam2.mono (by omega)) : DF _ (HL2.size + 1))
      have df47 := (DF.new (bf_pt34.mono hm0.size) : DF _ (HL2.size + 1))
      have nx48 : Nx 0 H0.size (HL2.size + 1) := Nx.new hm0.size
      have nx49 : Nx 0 H23.size (HL2.size + 1) := Nx.new hlm1.size
      have nx50 : Nx 0 H6_3.size (HL2.size + 1) := Nx.new hlm2.size
      replace hc := hc.nw hs12
      replace hso := hso.nw hs12
      replace ow := ow.nw hs12
      replace it := it.nw hs12
      replace hL := hL.nw hs12
      replace hM := hM.nw hs12
      replace vi := vi.nw hs12
      replace fam2 := fun u => (fam2 u).nw hs12
      replace pt34 := pt34.nw hs12
      replace hm0 := hm0.tr hs12
      replace hlm1 := Mo.trBN hlm1 hs12
      replace hlm2 := Mo.trBN hlm2 hs12
      have hz9 := hs12.size
      replace vj : Var 30 H12 HL2.size (fA Zid) := vj
      refine LR.s (S.var vj (_) (fA ((pa x)[q])) rfl rfl rfl rfl (fA_one _) Try.sizeOf30 (fA_len _) (by first | decide | simp [fA_len]) ((splice_all2 (by first | exact (fA_len _).symm | rfl | exact (fA_len _).trans (fA_len _).symm)))) (Wd.u rfl) rfl (fun H10_3 r10_3 => ?_)
      obtain ⟨vj, hs10_3⟩ := r10_3
      replace hs10_3 := hs10_3.md1
      replace hc := hc.upL hs10_3 (DFL.cons df39 DFL.nil)
      replace hso := hso.upL hs10_3 (DL.cons dj40 DL.nil)
      replace ow := ow.upL hs10_3 (DL.cons dj41 DL.nil)
      replace it := it.upL hs10_3 (DL.cons dj42 DL.nil)
      replace hL := hL.upL hs10_3 (DL.cons dj43 DL.nil)
      replace hM := hM.upL hs10_3 (DL.cons dj44 DL.nil)
      replace vi := vi.upL hs10_3 (DL.cons dj45 DL.nil)
      replace fam2 := fun u => (fam2 u).upL hs10_3 (DFL.cons df46 DFL.nil)
      replace pt34 := pt34.upL hs10_3 (DFL.cons df47 DFL.nil)
      replace hm0 := (Mo.trL (ks := []) (hm0.mdn []) hs10_3 (MIL.cons (MI.app MI.z (nx48) (Nat.le_refl _)) MIL.nil)).nil
      replace hlm1 := Mo.trB hlm1 hs10_3 (BL.cons (nx48) BL.nil)
      replace hlm2 := Mo.trB hlm2 hs10_3 (BL.cons (nx48) BL.nil)
      have hz10 := hs10_3.size
      refine LR.nil ?_
      refine hK22 _ _ ?_
      refine CW.seq (fun K23 hK23 hE23 => ?_)
      refine CW.region ?_
      refine LR.v (Y.move rfl rfl) (Wd.u rfl) rfl rfl ?_
      refine LR.v (Y.loadN vj.pt rfl Try.isAgg30 Try.sizeOf30 (fA_len _) rfl) (Wd.u rfl) rfl rfl ?_
      refine LR.v (Y.lookupOkA hso.mo keyId rfl Try.runUnderlying72 Try.zeroValue3 rfl rfl) (Wd.u rfl) rfl rfl ?_
      refine LR.v (Y.move rfl rfl) (Wd.u rfl) rfl rfl ?_
      refine LR.v (Y.extract rfl rfl rfl) (Wd.u rfl) rfl rfl ?_
      refine LR.v (Y.extract rfl rfl rfl) (Wd.u rfl) rfl rfl ?_
      refine LR.v (Y.assign rfl rfl) (Wd.u rfl) rfl rfl ?_
      refine LR.v (Y.assign rfl rfl) (Wd.u rfl) rfl rfl ?_
      refine LR.nil ?_
      refine hK23 _ _ ?_
      refine CW.seq (fun K24 hK24 hE24 => ?_)
      refine CW.region ?_
      refine LR.v (Y.move rfl rfl) (Wd.u rfl) rfl rfl ?_
      refine LR.nil ?_
      refine hK24 _ _ ?_
      refine CW.cond rfl (fun c42 => ?_) (fun c42 => ?_)
      ·
        refine CW.seq (fun K25 hK25 hE25 => ?_)
        refine CW.region ?_
        refine LR.v (Y.move rfl rfl) (Wd.u rfl) rfl rfl ?_
        refine LR.v (Y.loadN vj.pt rfl Try.isAgg30 Try.sizeOf30 (fA_len _) rfl) (Wd.u rfl) rfl rfl ?_
        refine LR.v (Y.loadN vi.pt rfl Try.isAgg30 Try.sizeOf30 (fA_len _) rfl) (Wd.u rfl) rfl rfl ?_
        refine LR.z (Z.litw _ ([x]) rfl inf28 rfl rfl rfl (by decide) (by decide) fA_len fA_one (rfl)) (Wd.u rfl) rfl rfl (fun v47 H47 r47 => ?_)
        obtain ⟨ow47, hs47, ob47, hH47⟩ := r47
        have hzs47 : H47.size = H10_3.size + 1 := by rw [hH47]; simp
        have df51 := (DF.new (bf_hc.mono hm0.size) : DF _ (H10_3.size + 1))
        have dj52 : Dj (sb + 1) (H10_3.size + 1) := Dj.new hso.lt
        have dj53 : Dj kr (H10_3.size + 1) := Dj.new ow.le
        have dj54 : Dj (H21.size + 1) (H10_3.size + 1) := Dj.new it.lt
        have dj55 : Dj (H0.size + 1) (H10_3.size + 1) := Dj.new hL.lt
        have dj56 : Dj (H20.size + 1) (H10_3.size + 1) := Dj.new hM.lt
        have dj57 : Dj (H24.size + 1) (H10_3.size + 1) := Dj.new vi.lt
        have df58 := (DF.new (bf_fam2.mono (by omega)) : DF _ (H10_3.size + 1))
        have dj59 : Dj (HL2.size + 1) (H10_3.size + 1) := Dj.new vj.lt
        have nx60 : Nx 0 H0.size (H10_3.size + 1) := Nx.new hm0.size
        have nx61 : Nx 0 H23.size (H10_3.size + 1) := Nx.new hlm1.size
        have nx62 : Nx 0 H6_3.size (H10_3.size + 1) := Nx.new hlm2.size
        replace hc := hc.nw hs47
        replace hso := hso.nw hs47
        replace ow := ow.nw hs47
        replace it := it.nw hs47
        replace hL := hL.nw hs47
        replace hM := hM.nw hs47
        replace vi := vi.nw hs47
        replace fam2 := fun u => (fam2 u).nw hs47
        replace vj := vj.nw hs47
        replace hm0 := hm0.tr hs47
        replace hlm1 := Mo.trBN hlm1 hs47
        replace hlm2 := Mo.trBN hlm2 hs47
        have hz11 := hs47.size
        refine LR.z (Z.entA hM keyId rfl Try.runUnderlying69 Try.zeroValue28 rfl rfl) (Wd.u rfl) rfl rfl (fun v48 H48 r48 => ?_)
        obtain ⟨qe, rfl, hM, hs48⟩ := r48
        replace hs48 := hs48.md1
        replace hc := hc.upL hs48 (DFL.cons df4 DFL.nil)
        replace hso := hso.upL hs48 (DL.cons dj5 DL.nil)
        replace ow := ow.upL hs48 (DL.cons dj36.symm DL.nil)
        replace it := it.upL hs48 (DL.cons dj11.symm DL.nil)
        replace hL := hL.upL hs48 (DL.cons dj6 DL.nil)
        replace vi := vi.upL hs48 (DL.cons dj24.symm DL.nil)
        replace fam2 := fun u => (fam2 u).upL hs48 (DFL.cons fg2hM DFL.nil)
        replace vj := vj.upL hs48 (DL.cons dj44.symm DL.nil)
        replace ow47 := ow47.upL hs48 (DL.cons dj56.symm DL.nil)
        replace hm0 := (Mo.trL (ks := []) (hm0.mdn []) hs48 (MIL.cons (MI.app MI.z (nx7) (Nat.le_refl _)) MIL.nil)).nil
        replace hlm1 := Mo.trB hlm1 hs48 (BL.cons (nx7) BL.nil)
        replace hlm2 := Mo.trB hlm2 hs48 (BL.cons (nx7) BL.nil)
        have hz12 := hs48.size
        refine LR.v (Y.extract rfl rfl rfl) (Wd.u rfl) rfl rfl ?_
        have hcl1 := hcl (pa x)[q]
        obtain ⟨kk49, fo49, hkk49, reb49⟩ := (fam2 ()).at ((pa x)[q])
        have nx63 := Nx.fam hG2 hkk49
        have df64 := DF.nx (bf_hc) nx63
        have dj65 : Dj (sb + 1) kk49 := Dj.nx hlt_hso nx63
        have dj66 : Dj kr kk49 := Dj.fam (fg2ow) hkk49
        have dj67 : Dj (H21.size + 1) kk49 := Dj.fam (fg2it) hkk49
        have dj68 : Dj (H0.size + 1) kk49 := Dj.fam (fg2hL) hkk49
        have dj69 : Dj (H20.size + 1) kk49 := Dj.fam (fg2hM) hkk49
        have dj70 : Dj (H24.size + 1) kk49 := Dj.fam (fg2vi) hkk49
        have dj71 : Dj (HL2.size + 1) kk49 := Dj.fam (df46) hkk49
        have dj72 : Dj (H10_3.size + 1) kk49 := Dj.fam (df58) hkk49
        refine LR.z (Z.apnd fo49 ow47.rd rfl inf28 rfl rfl (by rw [List.length_singleton]; omega) (by rw [List.length_singleton]; omega)) (Wd.u rfl) rfl rfl (fun v49 H49 r49 => ?_)
        obtain ⟨k49, fo49, hk49, hs49⟩ := r49
        replace hk49 : Nx kk49 H48.size k49 := hk49
        replace hs49 := hs49.md
        have df73 := DF.app (df64) (bf_hc.mono hm0.size) hk49
        have dj74 : Dj (sb + 1) k49 := Dj.app (dj65) hso.lt hk49
        have dj75 : Dj kr k49 := Dj.app (dj66) ow.le hk49
        have dj76 : Dj (H21.size + 1) k49 := Dj.app (dj67) it.lt hk49
        have dj77 : Dj (H0.size + 1) k49 := Dj.app (dj68) hL.lt hk49
        have dj78 : Dj (H20.size + 1) k49 := Dj.app (dj69) hM.lt hk49
        have dj79 : Dj (H24.size + 1) k49 := Dj.app (dj70) vi.lt hk49
        have dj80 : Dj (HL2.size + 1) k49 := Dj.app (dj71) vj.lt hk49
        have dj81 : Dj (H10_3.size + 1) k49 := Dj.app (dj72) ow47.le hk49
        have nx82 : Nx 0 H0.size k49 := Nx.tr (nx63) hk49 hm0.size
        replace hc := hc.upL hs49 (DFL.cons df64 DFL.nil)
        replace hso := hso.upL hs49 (DL.cons dj65 DL.nil)
        replace ow := ow.upL hs49 (DL.cons dj66 DL.nil)
        replace it := it.upL hs49 (DL.cons dj67 DL.nil)
        replace hL := hL.upL hs49 (DL.cons dj68 DL.nil)
        replace hM := hM.upL hs49 (DL.cons dj69 DL.nil)
        replace vi := vi.upL hs49 (DL.cons dj70 DL.nil)
        replace vj := vj.upL hs49 (DL.cons dj71 DL.nil)
        replace ow47 := ow47.upL hs49 (DL.cons dj72 DL.nil)
        replace hm0 := (Mo.trL (ks := []) (hm0.mdn []) hs49 (MIL.cons (MI.app MI.z (nx63) (Nat.le_refl _)) MIL.nil)).nil
        replace hlm1 := Mo.trB hlm1 hs49 (BL.cons (nx63) BL.nil)
        replace hlm2 := Mo.trB hlm2 hs49 (BL.cons (nx63) BL.nil)
        have hz13 := hs49.size
        have hle_fo49 := fo49.le
        have fam2 := fun u : Unit => reb49 _ _ _ _ hs49 fo49 hk49
        replace bf_fam2 := BF.or1 (bf_fam2.mono (by omega)) fo49.le
        have df83 := DF.or1 (fg2it) (dj76)
        have df84 := DF.or1 (fg2hL) (dj77)
        have df85 := DF.or1 (fg2hM) (dj78)
        have df86 := DF.or1 (fg2ow) (dj75)
        have df87 := DF.or1 (fg2vi) (dj79)
        have df88 := DF.or1 (df46) (dj80)
        have df89 := DF.or1 (df58) (dj81)
        refine LR.v (Y.extract rfl rfl rfl) (Wd.u rfl) rfl rfl ?_
        refine LR.s (S.entA (v49) hM keyId.inj rfl rfl rfl rfl) (Wd.u rfl) rfl (fun H13_8 r13_8 => ?_)
        obtain ⟨hM, hs13_8⟩ := r13_8
        rw [ment_put] at hM
        replace hs13_8 := hs13_8.md1
        replace hc := hc.upL hs13_8 (DFL.cons df4 DFL.nil)
        replace hso := hso.upL hs13_8 (DL.cons dj5 DL.nil)
        replace ow := ow.upL hs13_8 (DL.cons dj36.symm DL.nil)
        replace it := it.upL hs13_8 (DL.cons dj11.symm DL.nil)
        replace hL := hL.upL hs13_8 (DL.cons dj6 DL.nil)
        replace vi := vi.upL hs13_8 (DL.cons dj24.symm DL.nil)
        replace vj := vj.upL hs13_8 (DL.cons dj44.symm DL.nil)
        replace ow47 := ow47.upL hs13_8 (DL.cons dj56.symm DL.nil)
        replace fo49 := fo49.upL hs13_8 (DL.cons dj78.symm DL.nil)
        replace fam2 := fun u => (fam2 u).upL hs13_8 (DFL.cons df85 DFL.nil)
        replace hm0 := (Mo.trL (ks := []) (hm0.mdn []) hs13_8 (MIL.cons (MI.app MI.z (nx7) (Nat.le_refl _)) MIL.nil)).nil
        replace hlm1 := Mo.trB hlm1 hs13_8 (BL.cons (nx7) BL.nil)
        replace hlm2 := Mo.trB hlm2 hs13_8 (BL.cons (nx7) BL.nil)
        have hz14 := hs13_8.size
        refine LR.nil ?_
        refine hK25 _ _ ?_
        refine CW.region ?_
        refine LR.v (Y.move rfl rfl) (Wd.u rfl) rfl rfl ?_
        refine LR.v (Y.addi rfl rfl rfl (by omega)) (Wd.u rfl) rfl rfl ?_
        refine LR.v (Y.assign rfl rfl) (Wd.u rfl) rfl rfl ?_
        refine LR.nil ?_
        refine hK21 _ _ ?_
        refine hK20 _ _ ?_
        refine CW.region ?_
        refine LR.v (Y.addi rfl rfl rfl (by omega)) (Wd.u rfl) rfl rfl ?_
        refine LR.v (Y.move rfl rfl) (Wd.u rfl) rfl rfl ?_
        refine LR.nil ?_
        refine QN.sub (hN17 (q + 1, cn + 1, mput mc2 ((pa x)[q]) v49, fun p => if p = (pa x)[q] then ch2 (pa x)[q] ++ [x] else ch2 p, fun b => G2 b ∨ b + 1 = k49) _ ?_ ?_) ⟨rfl, rfl, rfl, rfl, rfl, rfl, rfl, (iv (by omega)), rfl, rfl, (iv (by omega)), (iv (by omega)), trivial⟩
        · exact ⟨it, hL, hM, ow, vi, (fun u => by rw [vOf_put]; exact fam2 ()), (bf_fam2.mono (by omega)), df83, df84, df85, df86, df87, fun b e => e.elim (hG2 b) (fun e => by have := (nx82); unfold Nx at this; omega), (by omega), hP2.yes hnd (by omega) (isSome_iff_key.1 c42), nx38, dj34, dj35, dj36, dj37, hlm2⟩
        · first | omega | (simp only; omega) | (simp; omega)
      ·
        refine CW.skip ?_
        refine hK21 _ _ ?_
        refine hK20 _ _ ?_
        refine CW.region ?_
        refine LR.v (Y.addi rfl rfl rfl (by omega)) (Wd.u rfl) rfl rfl ?_
        refine LR.v (Y.move rfl rfl) (Wd.u rfl) rfl rfl ?_
        refine LR.nil ?_
        refine QN.sub (hN17 (q + 1, cn, mc2, ch2, G2) _ ?_ ?_) ⟨rfl, rfl, rfl, rfl, rfl, rfl, rfl, (iv (by omega)), rfl, rfl, (iv (by omega)), (iv (by omega)), trivial⟩
        · exact ⟨it, hL, hM, ow, vi, fam2, (bf_fam2.mono (by omega)), fg2it, fg2hL, fg2hM, fg2ow, fg2vi, hG2, (by omega), hP2.no (by omega) (fun h => by rw [isSome_iff_key.2 h] at c42; cases c42), nx38, dj34, dj35, dj36, dj37, hlm2⟩
        · first | omega | (simp only; omega) | (simp; omega)
    ·
      have hqe : q = (pa x).length := by omega
      subst hqe
      refine CW.exit (hE19 (.exit 2) nofun _ _ (hE17 (.exit 2) nofun _ _ (hX16 _ _ ?_)))
      refine hK14 _ _ ?_
      refine CW.seq (fun K26 hK26 hE26 => ?_)
      refine CW.region ?_
      refine LR.v (Y.move rfl rfl) (Wd.u rfl) rfl rfl ?_
      refine LR.v (Y.loadN vi.pt rfl Try.isAgg30 Try.sizeOf30 (fA_len _) rfl) (Wd.u rfl) rfl rfl ?_
      refine LR.v (Y.move rfl rfl) (Wd.u rfl) rfl rfl ?_
      refine LR.s (S.putA ((cn : Int)) hL keyId rfl Try.runUnderlying72 rfl rfl rfl) (Wd.u rfl) rfl (fun H16_3 r16_3 => ?_)
      obtain ⟨hL, hs16_3⟩ := r16_3
      replace hs16_3 := hs16_3.md1
      replace hc := hc.upL hs16_3 (DFL.cons df1 DFL.nil)
      replace hso := hso.upL hs16_3 (DL.cons dj2 DL.nil)
      replace ow := ow.upL hs16_3 (DL.cons dj35.symm DL.nil)
      replace it := it.upL hs16_3 (DL.cons dj10.symm DL.nil)
      replace hM := hM.upL hs16_3 (DL.cons dj6.symm DL.nil)
      replace vi := vi.upL hs16_3 (DL.cons dj23.symm DL.nil)
      replace fam2 := fun u => (fam2 u).upL hs16_3 (DFL.cons fg2hL DFL.nil)
      replace hm0 := (Mo.trL (ks := []) (hm0.mdn []) hs16_3 (MIL.cons (MI.app MI.z (nx3) (Nat.le_refl _)) MIL.nil)).nil
      replace hlm1 := Mo.trB hlm1 hs16_3 (BL.cons (nx3) BL.nil)
      have hz15 := hs16_3.size
      refine LR.nil ?_
      refine hK26 _ _ ?_
      refine CW.seq (fun K27 hK27 hE27 => ?_)
      refine CW.region ?_
      refine LR.v (Y.move rfl rfl) (Wd.u rfl) rfl rfl ?_
      refine LR.v (Y.eql rfl rfl rfl) (Wd.u rfl) rfl rfl ?_
      refine LR.nil ?_
      refine hK27 _ _ ?_
      refine CW.condp rfl (fun c58 => ?_) (fun c58 => ?_)
      ·
        have hrl := hP.len
        rw [List.length_map] at hrl
        refine CW.region ?_
        refine LR.v (Y.move rfl rfl) (Wd.u rfl) rfl rfl ?_
        refine LR.v (Y.loadN vi.pt rfl Try.isAgg30 Try.sizeOf30 (fA_len _) rfl) (Wd.u rfl) rfl rfl ?_
        refine LR.z (Z.litw _ ([x]) rfl inf28 rfl rfl rfl (by decide) (by decide) fA_len fA_one (rfl)) (Wd.u rfl) rfl rfl (fun v61 H61 r61 => ?_)
        obtain ⟨ow61, hs61, ob61, hH61⟩ := r61
        have hzs61 : H61.size = H16_3.size + 1 := by rw [hH61]; simp
        have df90 := (DF.new (bf_hc.mono hm0.size) : DF _ (H16_3.size + 1))
        have dj91 : Dj (sb + 1) (H16_3.size + 1) := Dj.new hso.lt
        have dj92 : Dj kr (H16_3.size + 1) := Dj.new ow.le
        have dj93 : Dj (H21.size + 1) (H16_3.size + 1) := Dj.new it.lt
        have dj94 : Dj (H0.size + 1) (H16_3.size + 1) := Dj.new hL.lt
        have dj95 : Dj (H20.size + 1) (H16_3.size + 1) := Dj.new hM.lt
        have dj96 : Dj (H24.size + 1) (H16_3.size + 1) := Dj.new vi.lt
        have df97 := (DF.new (bf_fam2.mono (by omega)) : DF _ (H16_3.size + 1))
        have nx98 : Nx 0 H0.size (H16_3.size + 1) := Nx.new hm0.size
        have nx99 : Nx 0 H23.size (H16_3.size + 1) := Nx.new hlm1.size
        replace hc := hc.nw hs61
        replace hso := hso.nw hs61
        replace ow := ow.nw hs61
        replace it := it.nw hs61
        replace hL := hL.nw hs61
        replace hM := hM.nw hs61
        replace vi := vi.nw hs61
        replace fam2 := fun u => (fam2 u).nw hs61
        replace hm0 := hm0.tr hs61
        replace hlm1 := Mo.trBN hlm1 hs61
        have hz16 := hs61.size
        refine LR.z (Z.apnd ow ow61.rd rfl inf28 rfl rfl (by rw [List.length_singleton]; omega) (by rw [List.length_singleton]; omega)) (Wd.u rfl) rfl rfl (fun v62 H62 r62 => ?_)
        obtain ⟨k62, ow62, hk62, hs62⟩ := r62
        replace hk62 : Nx kr H61.size k62 := hk62
        replace hs62 := hs62.md
        have df100 := DF.app (df29) (bf_hc.mono hm0.size) hk62
        have dj101 : Dj (sb + 1) k62 := Dj.app (dj30) hso.lt hk62
        have dj102 : Dj (H21.size + 1) k62 := Dj.app (dj34) it.lt hk62
        have dj103 : Dj (H0.size + 1) k62 := Dj.app (dj35) hL.lt hk62
        have dj104 : Dj (H20.size + 1) k62 := Dj.app (dj36) hM.lt hk62
        have dj105 : Dj (H24.size + 1) k62 := Dj.app (dj37.symm) vi.lt hk62
        have df106 := DF.app (fg2ow) (bf_fam2.mono (by omega)) hk62
        have dj107 : Dj (H16_3.size + 1) k62 := Dj.app (dj92.symm) ow61.le hk62
        have nx108 : Nx 0 H0.size k62 := Nx.tr (nx32) hk62 hm0.size
        have nx109 : Nx 0 H23.size k62 := Nx.tr (nx33) hk62 hlm1.size
        replace hc := hc.upL hs62 (DFL.cons df29 DFL.nil)
        replace hso := hso.upL hs62 (DL.cons dj30 DL.nil)
        replace it := it.upL hs62 (DL.cons dj34 DL.nil)
        replace hL := hL.upL hs62 (DL.cons dj35 DL.nil)
        replace hM := hM.upL hs62 (DL.cons dj36 DL.nil)
        replace vi := vi.upL hs62 (DL.cons dj37.symm DL.nil)
        replace fam2 := fun u => (fam2 u).upL hs62 (DFL.cons fg2ow DFL.nil)
        replace ow61 := ow61.upL hs62 (DL.cons dj92.symm DL.nil)
        replace hm0 := (Mo.trL (ks := []) (hm0.mdn []) hs62 (MIL.cons (MI.app MI.z (nx32) (Nat.le_refl _)) MIL.nil)).nil
        replace hlm1 := Mo.trB hlm1 hs62 (BL.cons (nx32) BL.nil)
        have hz17 := hs62.size
        have hle_ow62 := ow62.le
        obtain ⟨s62, rfl⟩ : ∃ s : SV, v62 = s.v := ⟨toSV v62, ow62.sv.symm⟩
        refine LR.v (Y.assign rfl rfl) (Wd.u rfl) rfl rfl ?_
        refine LR.nil ?_
        refine hK11 _ _ ?_
        have hdl2 := (hP.next (rd2 := if cn = 0 then rd ++ [x] else rd) hnd hxK hP2 (hco.pl x) rfl).dlen
        rw [List.length_append, List.length_map, List.length_singleton] at hdl2
        refine QN.sub (hN8 (dn ++ [x], mput L x (cn : Int), mc2, s62, k62, rd ++ [x], ch2, G2) _ ?_ ?_) ⟨rfl, rfl, rfl, rfl, rfl, rfl, rfl, trivial⟩
        · exact ⟨it, hL, hM, ow62, fam2, (bf_fam2.mono (by omega)), (fg2it), (fg2hL), (fg2hM), (df106), hG2, hP.next hnd hxK hP2 (hco.pl x) (if_pos (by omega)).symm, nx109, dj102, dj103, dj104, hlm1⟩
        · simp <;> omega
      ·
        refine CW.skip ?_
        refine hK11 _ _ ?_
        have hdl2 := (hP.next (rd2 := if cn = 0 then rd ++ [x] else rd) hnd hxK hP2 (hco.pl x) rfl).dlen
        rw [List.length_append, List.length_map, List.length_singleton] at hdl2
        refine QN.sub (hN8 (dn ++ [x], mput L x (cn : Int), mc2, o, kr, rd, ch2, G2) _ ?_ ?_) ⟨rfl, rfl, rfl, rfl, rfl, rfl, rfl, trivial⟩
        · exact ⟨it, hL, hM, ow, fam2, (bf_fam2.mono (by omega)), (fg2it), (fg2hL), (fg2hM), (fg2ow), hG2, hP.next hnd hxK hP2 (hco.pl x) (if_neg (by omega)).symm, nx33, dj34, dj35, dj36, hlm1⟩
        · simp <;> omega
  ·
    obtain ⟨hall, hdn2⟩ := hF24 c25
    rw [hdn2] at it
    have hrl := hP.len
    rw [List.length_map] at hrl
    refine CW.exit (hE10 (.exit 0) nofun _ _ (hE8 (.exit 0) nofun _ _ (hX7 _ _ ?_)))
    refine hK5 _ _ ?_
    refine CW.seq (fun K28 hK28 hE28 => ?_)
    refine CW.region ?_
    refine LR.v (Y.move rfl rfl) (Wd.u rfl) rfl rfl ?_
    -- call slices.SortFunc[[]selvage/api.Id,selvage/api.Id]
    refine LR.call rfl Try.call38 rfl (Wd.u rfl) rfl rfl (sortA_ct kr _ rd w0 _ ow (by omega)) (fun v64 H64 r64 => ?_)
    have ql110 := hso.lt
    have ql111 := it.lt
    have ql112 := hL.lt
    have ql113 := hM.lt
    have ql114 := ow.le
    obtain ⟨rd2, kr2, rfl, ow, hk64, hp64, hs64⟩ := r64
    have df115 := DF.app (df13) (bf_hc.mono hm0.size) hk64
    have dj116 : Dj (sb + 1) kr2 := Dj.app (dj14) ql110 hk64
    have dj117 : Dj (H21.size + 1) kr2 := Dj.app (dj16) ql111 hk64
    have dj118 : Dj (H0.size + 1) kr2 := Dj.app (dj17) ql112 hk64
    have dj119 : Dj (H20.size + 1) kr2 := Dj.app (dj18) ql113 hk64
    have df120 := DF.app (fgow) (bf_fam.mono (by omega)) hk64
    have nx121 : Nx 0 H0.size kr2 := Nx.tr (nx15) hk64 hm0.size
    replace hc := hc.upL hs64 (DFL.cons df13 DFL.nil)
    replace hso := hso.upL hs64 (DL.cons dj14 DL.nil)
    replace it := it.upL hs64 (DL.cons dj16 DL.nil)
    replace hL := hL.upL hs64 (DL.cons dj17 DL.nil)
    replace hM := hM.upL hs64 (DL.cons dj18 DL.nil)
    replace fam := fun u => (fam u).upL hs64 (DFL.cons fgow DFL.nil)
    replace hm0 := (Mo.trL (ks := []) (hm0.mdn []) hs64 (MIL.cons (MI.app MI.z (nx15) (Nat.le_refl _)) MIL.nil)).nil
    have hz18 := hs64.size
    have hle_ow := ow.le
    have hP3 := P3.start hP (fun k hk => by obtain ⟨p, hp, rfl⟩ := List.mem_map.1 hk; exact hall p hp) hp64.1 hp64.2
    replace ow := ow.q
    have hchc : ∀ i ∈ mm.map (·.1), ∀ k, (ch i).count k = if k ∈ mm.map (·.1) then (pa k).count i else 0 := by
      intro i hi k
      have hkd : k ∈ dn ↔ k ∈ mm.map (·.1) := ⟨fun h => hP.sub k h, fun h => by obtain ⟨p, hp, rfl⟩ := List.mem_map.1 h; exact hall p hp⟩
      rw [hP.chi]
      by_cases h9 : k ∈ mm.map (·.1)
      · rw [if_pos h9, if_pos ⟨hi, hkd.2 h9⟩]
      · rw [if_neg h9, if_neg (fun q => h9 (hkd.1 q.2))]
    refine LR.nil ?_
    refine hK28 _ _ ?_
    refine CW.seq (fun K29 hK29 hE29 => ?_)
    refine CW.block (fun K30 hK30 hX30 hE30 => ?_)
    refine CW.loop (fun (s_ : (Value) × (Nat) × (List Ide) × (Value) × (Nat) × (List Ide) × (List (Ide × Int))) => match s_ with | (vr, kr3, rd3, vo, ko, D, L3) => [(5, .map (some H0.size)), (6, .map (some H20.size)), (7, vr), (8, vo)])
      (fun (s_ : (Value) × (Nat) × (List Ide) × (Value) × (Nat) × (List Ide) × (List (Ide × Int))) (H : Heap) => match s_ with | (vr, kr3, rd3, vo, ko, D, L3) => (Mp H vA (Value.int .i64) H0.size L3) ∧ (Qr kr3 H fA 32 vr rd3) ∧ (Ow ko 30 H fA 32 vo D) ∧ (P2 pa (mm.map (·.1)) D) ∧ (P3 pa (mm.map (·.1)) D [] L3 rd3) ∧ (Nx kr2 H64.size kr3) ∧ (Nx 0 H64.size ko) ∧ (Dj (H0.size + 1) kr3) ∧ (Dj (H0.size + 1) ko) ∧ (Dj kr3 ko) ∧ Mo (Ms [(H0.size + 1), kr2]) H64 H)
      (fun (s_ : (Value) × (Nat) × (List Ide) × (Value) × (Nat) × (List Ide) × (List (Ide × Int))) => match s_ with | (vr, kr3, rd3, vo, ko, D, L3) => mm.length - D.length) (o.v, kr2, rd2, .slice none 0 0, 0, [], L) ⟨rfl, rfl, rfl, rfl, trivial⟩ ?_ ?_
    ·
      exact ⟨hL, ow, Ow.nil fA_len fA_one, P2.start, hP3, Nx.refl _ _, Nx.refl _ _, dj118, Dj.z, Dj.z, Mo.refl _ _⟩
    rintro ⟨vr, kr3, rd3, vo, ko, D, L3⟩ HL3 hI3 K31 hN31 hE31
    obtain ⟨hL, ow, oo, hP2, hP3, nxl_ow, nxl_oo, dj_hL_ow, dj_hL_oo, dj_ow_oo, hlm3⟩ := hI3
    have df122 := DF.app (df115) (bf_hc.mono hm0.size) nxl_ow
    have dj123 : Dj (sb + 1) kr3 := Dj.app (dj116) hso.lt nxl_ow
    have dj124 : Dj (H21.size + 1) kr3 := Dj.app (dj117) it.lt nxl_ow
    have dj125 : Dj (H20.size + 1) kr3 := Dj.app (dj119) hM.lt nxl_ow
    have df126 := DF.app (df120) (bf_fam.mono (by omega)) nxl_ow
    have nx127 : Nx 0 H0.size kr3 := Nx.tr (nx121) nxl_ow hm0.size
    have df128 := DF.app (DF.z) (bf_hc.mono hm0.size) nxl_oo
    have dj129 : Dj (sb + 1) ko := Dj.app (Dj.z) hso.lt nxl_oo
    have dj130 : Dj (H21.size + 1) ko := Dj.app (Dj.z) it.lt nxl_oo
    have dj131 : Dj (H20.size + 1) ko := Dj.app (Dj.z) hM.lt nxl_oo
    have df132 := DF.app (DF.z) (bf_fam.mono (by omega)) nxl_oo
    have nx133 : Nx 0 H0.size ko := Nx.tr (Nx.refl 0 _) nxl_oo hm0.size
    replace hc := hc.upL hlm3 (DFL.cons df1 (DFL.cons df115 DFL.nil))
    replace hso := hso.upL hlm3 (DL.cons dj2 (DL.cons dj116 DL.nil))
    replace it := it.upL hlm3 (DL.cons dj10.symm (DL.cons dj117 DL.nil))
    replace hM := hM.upL hlm3 (DL.cons dj6.symm (DL.cons dj119 DL.nil))
    replace fam := fun u => (fam u).upL hlm3 (DFL.cons fghL (DFL.cons df120 DFL.nil))
    replace hm0 := (Mo.trL (ks := []) (hm0.mdn []) hlm3 (MIL.cons (MI.app MI.z (nx3) (Nat.le_refl _)) (MIL.cons (MI.app MI.z (nx121) (Nat.le_refl _)) MIL.nil))).nil
    have hz19 := hlm3.size
    have hle_ow := ow.le
    have hle_oo := oo.le
    have dj134 := dj_hL_ow
    have dj135 := dj_hL_oo
    have dj136 := dj_ow_oo
    have nx_hlm3_hL := Nx.refl (H0.size + 1) H64.size
    have nx137 := nxl_ow
    have nx138 := nxl_oo
    have hDl := nodup_le hP2.dnd hP2.dsub
    rw [List.length_map] at hDl
    have hrl3 := nodup_le (ris_nodup hP3.ris) (fun k hk => ((hP3.rdm k).1 hk).1)
    rw [List.length_map] at hrl3
    refine CW.seq (fun K32 hK32 hE32 => ?_)
    refine CW.seq (fun K33 hK33 hE33 => ?_)
    refine CW.region ?_
    refine LR.v (Y.move rfl rfl) (Wd.u rfl) rfl rfl ?_
    refine LR.v (Y.len ow.rd rfl Try.runUnderlying28 rfl) (Wd.u rfl) rfl rfl ?_
    refine LR.v (Y.gtr rfl rfl rfl) (Wd.u rfl) rfl rfl ?_
    refine LR.nil ?_
    refine hK33 _ _ ?_
    refine CW.condp rfl (fun c67 => ?_) (fun c67 => ?_)
    ·
      obtain ⟨i, r2, hrd⟩ : ∃ i r2, rd3 = i :: r2 := by
        cases rd3 with
        | nil => simp at c67
        | cons a b => exact ⟨a, b, rfl⟩
      have hi3 := (hP3.rdm i).1 (by rw [hrd]; exact List.mem_cons_self)
      rw [hrd] at hP3
      refine CW.skip ?_
      refine hK32 _ _ ?_
      refine CW.block (fun K34 hK34 hX34 hE34 => ?_)
      refine CW.seq (fun K35 hK35 hE35 => ?_)
      refine CW.region ?_
      refine LR.v (Y.move rfl rfl) (Wd.u rfl) rfl rfl ?_
      refine LR.e (g := fun ad => .pointer (some ad)) (Y.indexAddr ow.rd (0) rfl Try.runUnderlying28 Try.sizeOf30 rfl rfl (by first | rfl | omega) (by omega)) (Wd.u rfl) rfl rfl (fun ad69 pt69 => ?_)
      refine LR.v (Y.cast (v2 := vA i) (Y.loadN pt69 rfl Try.isAgg30 Try.sizeOf30 (fA_len _) rfl) (by subst hrd; rfl)) (Wd.u rfl) rfl rfl ?_
      refine LR.z (Z.allocv rfl Try.zeroValue30) (Wd.u rfl) rfl rfl (fun v15 H15 r15 => ?_)
      obtain ⟨rfl, vk, hs15, ob15, hH15⟩ := r15
      have hzs15 : H15.size = HL3.size + 1 := by rw [hH15]; simp
      have df139 := (DF.new (bf_hc.mono hm0.size) : DF _ (HL3.size + 1))
      have dj140 : Dj (sb + 1) (HL3.size + 1) := Dj.new hso.lt
      have dj141 : Dj (H21.size + 1) (HL3.size + 1) := Dj.new it.lt
      have dj142 : Dj (H20.size + 1) (HL3.size + 1) := Dj.new hM.lt
      have df143 := (DF.new (bf_fam.mono (by omega)) : DF _ (HL3.size + 1))
      have dj144 : Dj (H0.size + 1) (HL3.size + 1) := Dj.new hL.lt
      have dj145 : Dj kr3 (HL3.size + 1) := Dj.new ow.le
      have dj146 : Dj ko (HL3.size + 1) := Dj.new oo.le
      have nx147 : Nx 0 H0.size (HL3.size + 1) := Nx.new hm0.size
      have nx148 : Nx 0 H64.size (HL3.size + 1) := Nx.new hlm3.size
      replace hc := hc.nw hs15
      replace hso := hso.nw hs15
      replace it := it.nw hs15
      replace hM := hM.nw hs15
      replace fam := fun u => (fam u).nw hs15
      replace hL := hL.nw hs15
      replace ow := ow.nw hs15
      replace oo := oo.nw hs15
      replace hm0 := hm0.tr hs15
      replace hlm3 := hlm3.trN hs15
      have hz20 := hs15.size
      replace vk : Var 30 H15 HL3.size (fA Zid) := vk
      refine LR.s (S.var vk (_) (fA (i)) rfl rfl rfl rfl (fA_one _) Try.sizeOf30 (fA_len _) (by first | decide | simp [fA_len]) ((splice_all2 (by first | exact (fA_len _).symm | rfl | exact (fA_len _).trans (fA_len _).symm)))) (Wd.u rfl) rfl (fun H21_4 r21_4 => ?_)
      obtain ⟨vk, hs21_4⟩ := r21_4
      replace hs21_4 := hs21_4.md1
      replace hc := hc.upL hs21_4 (DFL.cons df139 DFL.nil)
      replace hso := hso.upL hs21_4 (DL.cons dj140 DL.nil)
      replace it := it.upL hs21_4 (DL.cons dj141 DL.nil)
      replace hM := hM.upL hs21_4 (DL.cons dj142 DL.nil)
      replace fam := fun u => (fam u).upL hs21_4 (DFL.cons df143 DFL.nil)
      replace hL := hL.upL hs21_4 (DL.cons dj144 DL.nil)
      replace ow := ow.upL hs21_4 (DL.cons dj145 DL.nil)
      replace oo := oo.upL hs21_4 (DL.cons dj146 DL.nil)
      replace hm0 := (Mo.trL (ks := []) (hm0.mdn []) hs21_4 (MIL.cons (MI.app MI.z (nx147) (Nat.le_refl _)) MIL.nil)).nil
      replace hlm3 := hlm3.trL hs21_4 (MIL.cons (MI.app MI.z (nx148) (Nat.le_refl _)) MIL.nil)
      have hz21 := hs21_4.size
      refine LR.nil ?_
      refine hK35 _ _ ?_
      refine CW.seq (fun K36 hK36 hE36 => ?_)
      refine CW.region ?_
      refine LR.v (Y.move rfl rfl) (Wd.u rfl) rfl rfl ?_
      refine LR.e (g := fun v => v) (Y.slice ow.rd (1) (rd3.length) rfl Try.runUnderlying28 Try.sizeOf30 rfl (.inr ⟨_, _, _, rfl, rfl, by first | rfl | omega⟩) (.inl ⟨rfl, rfl⟩) (by omega) (by omega)) (Wd.u rfl) rfl rfl (fun v72 rd72 => ?_)
      have bf_rd72 := BF.of ow.le
      replace ow := Qr.of72 (F := fun _ => True) ow hrd rd72
      refine LR.v (Y.assign rfl rfl) (Wd.u rfl) rfl rfl ?_
      refine LR.nil ?_
      refine hK36 _ _ ?_
      refine CW.seq (fun K37 hK37 hE37 => ?_)
      refine CW.region ?_
      refine LR.v (Y.move rfl rfl) (Wd.u rfl) rfl rfl ?_
      refine LR.v (Y.loadN vk.pt rfl Try.isAgg30 Try.sizeOf30 (fA_len _) rfl) (Wd.u rfl) rfl rfl ?_
      refine LR.z (Z.litw _ ([i]) rfl inf28 rfl rfl rfl (by decide) (by decide) fA_len fA_one (rfl)) (Wd.u rfl) rfl rfl (fun v75 H75 r75 => ?_)
      obtain ⟨ow75, hs75, ob75, hH75⟩ := r75
      have hzs75 : H75.size = H21_4.size + 1 := by rw [hH75]; simp
      have df149 := (DF.new (bf_hc.mono hm0.size) : DF _ (H21_4.size + 1))
      have dj150 : Dj (sb + 1) (H21_4.size + 1) := Dj.new hso.lt
      have dj151 : Dj (H21.size + 1) (H21_4.size + 1) := Dj.new it.lt
      have dj152 : Dj (H20.size + 1) (H21_4.size + 1) := Dj.new hM.lt
      have df153 := (DF.new (bf_fam.mono (by omega)) : DF _ (H21_4.size + 1))
      have dj154 : Dj (H0.size + 1) (H21_4.size + 1) := Dj.new hL.lt
      have dj155 : Dj kr3 (H21_4.size + 1) := Dj.new ow.le
      have dj156 : Dj ko (H21_4.size + 1) := Dj.new oo.le
      have dj157 : Dj (HL3.size + 1) (H21_4.size + 1) := Dj.new vk.lt
      have nx158 : Nx 0 H0.size (H21_4.size + 1) := Nx.new hm0.size
      have nx159 : Nx 0 H64.size (H21_4.size + 1) := Nx.new hlm3.size
      replace hc := hc.nw hs75
      replace hso := hso.nw hs75
      replace it := it.nw hs75
      replace hM := hM.nw hs75
      replace fam := fun u => (fam u).nw hs75
      replace hL := hL.nw hs75
      replace ow := ow.nw hs75
      replace oo := oo.nw hs75
      replace vk := vk.nw hs75
      replace hm0 := hm0.tr hs75
      replace hlm3 := hlm3.trN hs75
      have hz22 := hs75.size
      refine LR.z (Z.apnd oo ow75.rd rfl inf28 rfl rfl (by rw [List.length_singleton]; omega) (by rw [List.length_singleton]; omega)) (Wd.u rfl) rfl rfl (fun v76 H76 r76 => ?_)
      obtain ⟨k76, oo, hk76, hs76⟩ := r76
      replace hk76 : Nx ko H75.size k76 := hk76
      replace hs76 := hs76.md
      have df160 := DF.app (df128) (bf_hc.mono hm0.size) hk76
      have dj161 : Dj (sb + 1) k76 := Dj.app (dj129) hso.lt hk76
      have dj162 : Dj (H21.size + 1) k76 := Dj.app (dj130) it.lt hk76
      have dj163 : Dj (H20.size + 1) k76 := Dj.app (dj131) hM.lt hk76
      have df164 := DF.app (df132) (bf_fam.mono (by omega)) hk76
      have dj165 : Dj (H0.size + 1) k76 := Dj.app (dj135) hL.lt hk76
      have dj166 : Dj kr3 k76 := Dj.app (dj136) ow.le hk76
      have dj167 : Dj (HL3.size + 1) k76 := Dj.app (dj146.symm) vk.lt hk76
      have dj168 : Dj (H21_4.size + 1) k76 := Dj.app (dj156.symm) ow75.le hk76
      have nx169 : Nx 0 H0.size k76 := Nx.tr (nx133) hk76 hm0.size
      have nx170 : Nx 0 H64.size k76 := Nx.tr (nx138) hk76 hlm3.size
      replace hc := hc.upL hs76 (DFL.cons df128 DFL.nil)
      replace hso := hso.upL hs76 (DL.cons dj129 DL.nil)
      replace it := it.upL hs76 (DL.cons dj130 DL.nil)
      replace hM := hM.upL hs76 (DL.cons dj131 DL.nil)
      replace fam := fun u => (fam u).upL hs76 (DFL.cons df132 DFL.nil)
      replace hL := hL.upL hs76 (DL.cons dj135 DL.nil)
      replace ow := ow.upL hs76 (DL.cons dj136 DL.nil)
      replace vk := vk.upL hs76 (DL.cons dj146.symm DL.nil)
      replace ow75 := ow75.upL hs76 (DL.cons dj156.symm DL.nil)
      replace hm0 := (Mo.trL (ks := []) (hm0.mdn []) hs76 (MIL.cons (MI.app MI.z (nx133) (Nat.le_refl _)) MIL.nil)).nil
      replace hlm3 := hlm3.trL hs76 (MIL.cons (MI.app MI.z (nx138) (Nat.le_refl _)) MIL.nil)
      have hz23 := hs76.size
      have hle_oo := oo.le
      refine LR.v (Y.assign rfl rfl) (Wd.u rfl) rfl rfl ?_
      refine LR.nil ?_
      refine hK37 _ _ ?_
      refine CW.seq (fun K38 hK38 hE38 => ?_)
      refine CW.region ?_
      refine LR.v (Y.move rfl rfl) (Wd.u rfl) rfl rfl ?_
      refine LR.v (Y.loadN vk.pt rfl Try.isAgg30 Try.sizeOf30 (fA_len _) rfl) (Wd.u rfl) rfl rfl ?_
      refine LR.v (Y.lookupA hM.mo keyId rfl Try.runUnderlying69 Try.zeroValue28 rfl rfl) (Wd.u rfl) rfl rfl ?_
      refine LR.v (Y.len ((fam ()).row i) rfl Try.runUnderlying28 rfl) (Wd.u rfl) rfl rfl ?_
      refine LR.v (Y.move rfl rfl) (Wd.u rfl) rfl rfl ?_
      refine LR.nil ?_
      refine hK38 _ _ ?_
      refine CW.block (fun K39 hK39 hX39 hE39 => ?_)
      refine CW.loop (fun (s_ : (Nat) × (Value) × (Nat) × (List Ide) × (List (Ide × Int))) => match s_ with | (j, vr4, kr4, rd4, L4) => [(5, .map (some H0.size)), (6, .map (some H20.size)), (7, vr4), (8, v76), (79, (id ((mget mc i).getD nilS) : Value)), (80, .int .i64 ((ch i).length : Int)), (81, .int .i64 (j : Int))])
        (fun (s_ : (Nat) × (Value) × (Nat) × (List Ide) × (List (Ide × Int))) (H : Heap) => match s_ with | (j, vr4, kr4, rd4, L4) => (Mp H vA (Value.int .i64) H0.size L4) ∧ (Qr kr4 H fA 32 vr4 rd4) ∧ (j ≤ (ch i).length) ∧ (P3 pa (mm.map (·.1)) (D ++ [i]) ((ch i).drop j) L4 rd4) ∧ (Nx kr3 H76.size kr4) ∧ (Dj (H0.size + 1) kr4) ∧ Mo (Ms [(H0.size + 1), kr3]) H76 H)
        (fun (s_ : (Nat) × (Value) × (Nat) × (List Ide) × (List (Ide × Int))) => match s_ with | (j, vr4, kr4, rd4, L4) => (ch i).length - j) (0, v72, kr3, r2, L3) ⟨rfl, rfl, rfl, rfl, rfl, rfl, rfl, trivial⟩ ?_ ?_
      ·
        exact ⟨hL, ow, (by omega), by rw [List.drop_zero]; exact hP3.pop (hchc i hi3.1), Nx.refl _ _, dj134, Mo.refl _ _⟩
      rintro ⟨j, vr4, kr4, rd4, L4⟩ HL4 hI4 K40 hN40 hE40
      obtain ⟨hL, ow, hj, hP4, nxl_ow, dj_hL_ow, hlm4⟩ := hI4
      have df171 := DF.app (df122) (bf_hc.mono hm0.size) nxl_ow
      have dj172 : Dj (sb + 1) kr4 := Dj.app (dj123) hso.lt nxl_ow
      have dj173 : Dj (H21.size + 1) kr4 := Dj.app (dj124) it.lt nxl_ow
      have dj174 : Dj (H20.size + 1) kr4 := Dj.app (dj125) hM.lt nxl_ow
      have df175 := DF.app (df126) (bf_fam.mono (by omega)) nxl_ow
      have dj176 : Dj k76 kr4 := Dj.app (dj166.symm) oo.le nxl_ow
      have nx177 : Nx 0 H0.size kr4 := Nx.tr (nx127) nxl_ow hm0.size
      have nx178 : Nx kr2 H64.size kr4 := Nx.tr (nx137) nxl_ow hlm3.size
      replace hc := hc.upL hlm4 (DFL.cons df1 (DFL.cons df122 DFL.nil))
      replace hso := hso.upL hlm4 (DL.cons dj2 (DL.cons dj123 DL.nil))
      replace it := it.upL hlm4 (DL.cons dj10.symm (DL.cons dj124 DL.nil))
      replace hM := hM.upL hlm4 (DL.cons dj6.symm (DL.cons dj125 DL.nil))
      replace fam := fun u => (fam u).upL hlm4 (DFL.cons fghL (DFL.cons df126 DFL.nil))
      replace oo := oo.upL hlm4 (DL.cons dj165.symm (DL.cons dj166.symm DL.nil))
      replace hm0 := (Mo.trL (ks := []) (hm0.mdn []) hlm4 (MIL.cons (MI.app MI.z (nx3) (Nat.le_refl _)) (MIL.cons (MI.app MI.z (nx127) (Nat.le_refl _)) MIL.nil))).nil
      replace hlm3 := hlm3.trL hlm4 (MIL.cons (MI.app (MI.root (by simp)) (nx_hlm3_hL) (Nat.le_refl _)) (MIL.cons (MI.app (MI.root (by simp)) (nx137) (Nat.le_refl _)) MIL.nil))
      have hz24 := hlm4.size
      have hle_ow := ow.le
      have dj179 := dj_hL_ow
      have nx_hlm4_hL := Nx.refl (H0.size + 1) H76.size
      have nx180 := nxl_ow
      have hrl4 := nodup_le (ris_nodup hP4.ris) (fun k hk => ((hP4.rdm k).1 hk).1)
      rw [List.length_map] at hrl4
      have hchl := hP.chl i
      have hdl4 := hP.dlen
      rw [List.length_map] at hdl4
      refine CW.seq (fun K41 hK41 hE41 => ?_)
      refine CW.region ?_
      refine LR.v (Y.lss rfl rfl rfl) (Wd.u rfl) rfl rfl ?_
      refine LR.nil ?_
      refine hK41 _ _ ?_
      refine CW.seq (fun K42 hK42 hE42 => ?_)
      refine CW.condp rfl (fun c82 => ?_) (fun c82 => ?_)
      ·
        have hjl : j < (ch i).length := by omega
        obtain ⟨k4, hk4⟩ : ∃ k4, k4 = (ch i)[j] := ⟨_, rfl⟩
        have hdr := List.drop_eq_getElem_cons hjl
        rw [← hk4] at hdr
        rw [hdr] at hP4
        have hcm : 0 < (ch i).count k4 := List.count_pos_iff.2 (by rw [hk4]; exact List.getElem_mem hjl)
        have hkK : k4 ∈ mm.map (·.1) ∧ i ∈ pa k4 := by
          have h9 := hchc i hi3.1 k4
          by_cases h8 : k4 ∈ mm.map (·.1)
          · rw [if_pos h8] at h9
            exact ⟨h8, List.count_pos_iff.1 (by omega)⟩
          · rw [if_neg h8] at h9; omega
        obtain ⟨n4, hn4⟩ : ∃ n, n = cntI (mm.map (·.1)) (D ++ [i]) (pa k4) + ((ch i).drop (j + 1)).count k4 := ⟨_, rfl⟩
        have hl4 : mget L4 k4 = some ((n4 + 1 : Nat) : Int) := by
          rw [hP4.left k4 hkK.1, List.count_cons_self, hn4, Nat.add_assoc]
        have hkD := kid_fresh hP2 hi3.1 hi3.2.1 hac hkK.2
        have hnb1 := cntI_le (mm.map (·.1)) (D ++ [i]) (pa k4)
        have hnb2 := hco.pl k4
        have hnb3 := List.count_le_length (a := k4) (l := (ch i).drop (j + 1))
        rw [List.length_drop] at hnb3
        refine CW.skip ?_
        refine hK42 _ _ ?_
        refine CW.seq (fun K43 hK43 hE43 => ?_)
        refine CW.block (fun K44 hK44 hX44 hE44 => ?_)
        refine CW.seq (fun K45 hK45 hE45 => ?_)
        refine CW.region ?_
        refine LR.e (g := fun ad => .pointer (some ad)) (Y.indexAddrF ((fam ()).row i) (j) rfl Try.runUnderlying28 Try.sizeOf30 rfl rfl (by first | rfl | omega) (by omega)) (Wd.u rfl) rfl rfl (fun ad83 pt83 => ?_)
        have bf_pt83 := bf_fam
        refine LR.v (Y.cast (v2 := vA k4) (Y.loadN pt83.pt rfl Try.isAgg30 Try.sizeOf30 (fA_len _) rfl) (by rw [hk4]; rfl)) (Wd.u rfl) rfl rfl ?_
        refine LR.z (Z.allocv rfl Try.zeroValue30) (Wd.u rfl) rfl rfl (fun v17 H17 r17 => ?_)
        obtain ⟨rfl, vq, hs17, ob17, hH17⟩ := r17
        have hzs17 : H17.size = HL4.size + 1 := by rw [hH17]; simp
        have df181 := (DF.new (bf_hc.mono hm0.size) : DF _ (HL4.size + 1))
        have dj182 : Dj (sb + 1) (HL4.size + 1) := Dj.new hso.lt
        have dj183 : Dj (H21.size + 1) (HL4.size + 1) := Dj.new it.lt
        have dj184 : Dj (H20.size + 1) (HL4.size + 1) := Dj.new hM.lt
        have df185 := (DF.new (bf_fam.mono (by omega)) : DF _ (HL4.size + 1))
        have dj186 : Dj kr4 (HL4.size + 1) := Dj.new ow.le
        have dj187 : Dj k76 (HL4.size + 1) := Dj.new oo.le
        have dj188 : Dj (H0.size + 1) (HL4.size + 1) := Dj.new hL.lt
        have df189 := (DF.new (bf_pt83.mono (by omega)) : DF _ (HL4.size + 1))
        have nx190 : Nx 0 H0.size (HL4.size + 1) := Nx.new hm0.size
        have nx191 : Nx 0 H64.size (HL4.size + 1) := Nx.new hlm3.size
        have nx192 : Nx 0 H76.size (HL4.size + 1) := Nx.new hlm4.size
        replace hc := hc.nw hs17
        replace hso := hso.nw hs17
        replace it := it.nw hs17
        replace hM := hM.nw hs17
        replace fam := fun u => (fam u).nw hs17
        replace ow := ow.nw hs17
        replace oo := oo.nw hs17
        replace hL := hL.nw hs17
        replace pt83 := pt83.nw hs17
        replace hm0 := hm0.tr hs17
        replace hlm3 := hlm3.trN hs17
        replace hlm4 := hlm4.trN hs17
        have hz25 := hs17.size
        replace vq : Var 30 H17 HL4.size (fA Zid) := vq
        refine LR.s (S.var vq (_) (fA (k4)) rfl rfl rfl rfl (fA_one _) Try.sizeOf30 (fA_len _) (by first | decide | simp [fA_len]) ((splice_all2 (by first | exact (fA_len _).symm | rfl | exact (fA_len _).trans (fA_len _).symm)))) (Wd.u rfl) rfl (fun H26_3 r26_3 => ?_)
        obtain ⟨vq, hs26_3⟩ := r26_3
        replace hs26_3 := hs26_3.md1
        replace hc := hc.upL hs26_3 (DFL.cons df181 DFL.nil)
        replace hso := hso.upL hs26_3 (DL.cons dj182 DL.nil)
        replace it := it.upL hs26_3 (DL.cons dj183 DL.nil)
        replace hM := hM.upL hs26_3 (DL.cons dj184 DL.nil)
        replace fam := fun u => (fam u).upL hs26_3 (DFL.cons df185 DFL.nil)
        replace ow := ow.upL hs26_3 (DL.cons dj186 DL.nil)
        replace oo := oo.upL hs26_3 (DL.cons dj187 DL.nil)
        replace hL := hL.upL hs26_3 (DL.cons dj188 DL.nil)
        replace pt83 := pt83.upL hs26_3 (DFL.cons df189 DFL.nil)
        replace hm0 := (Mo.trL (ks := []) (hm0.mdn []) hs26_3 (MIL.cons (MI.app MI.z (nx190) (Nat.le_refl _)) MIL.nil)).nil
        replace hlm3 := hlm3.trL hs26_3 (MIL.cons (MI.app MI.z (nx191) (Nat.le_refl _)) MIL.nil)
        replace hlm4 := hlm4.trL hs26_3 (MIL.cons (MI.app MI.z (nx192) (Nat.le_refl _)) MIL.nil)
        have hz26 := hs26_3.size
        refine LR.nil ?_
        refine hK45 _ _ ?_
        refine CW.seq (fun K46 hK46 hE46 => ?_)
        refine CW.region_any (fun Hq => Mp Hq vA (Value.int .i64) H0.size L4 ∧ Mo (Ms [H0.size + 1]) H26_3 Hq) [6] rfl ?_
        have hqs := (⟨hL, Mo.refl _ _⟩ : Mp H26_3 vA (Value.int .i64) H0.size L4 ∧ Mo (Ms [H0.size + 1]) H26_3 H26_3)
        refine LH.take 0 (by kernel_rfl) rfl (by kernel_rfl) (by kernel_rfl) (by kernel_rfl) (fun Hq hq => Y.move rfl rfl) (Wd.u rfl) rfl rfl hqs ?_
        refine LH.take 1 (by kernel_rfl) rfl (by kernel_rfl) (by kernel_rfl) (by kernel_rfl) (fun Hq hq => Y.loadN ((vq.upL hq.2 (DL.cons (dj188).symm DL.nil)).pt) rfl Try.isAgg30 Try.sizeOf30 (fA_len _) rfl) (Wd.u rfl) rfl rfl hqs ?_
        refine LH.take 2 (by kernel_rfl) rfl (by kernel_rfl) (by kernel_rfl) (by kernel_rfl) (fun Hq hq => Y.cast (v2 := .int .i64 ((n4 + 1 : Nat) : Int)) (Y.lookupA hq.1.mo keyId rfl Try.runUnderlying72 Try.zeroValue3 rfl rfl) (by rw [hl4]; rfl)) (Wd.u rfl) rfl rfl hqs ?_
        refine LH.take 3 (by kernel_rfl) rfl (by kernel_rfl) (by kernel_rfl) (by kernel_rfl) (fun Hq hq => Y.cast (v2 := .int .i64 (n4 : Int)) (Y.subi rfl rfl rfl (by omega)) (ivv (by omega))) (Wd.u rfl) rfl rfl hqs ?_
        refine LH.one (i := 4) (by kernel_rfl) ?_
        refine LO.z rfl (Z.entA hL keyId rfl Try.runUnderlying72 Try.zeroValue3 rfl rfl) (Wd.u rfl) rfl rfl (fun v89 H89 r89 => ?_)
        obtain ⟨qe, rfl, hL, hs89⟩ := r89
        replace hs89 := hs89.md1
        replace hc := hc.upL hs89 (DFL.cons df1 DFL.nil)
        replace hso := hso.upL hs89 (DL.cons dj2 DL.nil)
        replace it := it.upL hs89 (DL.cons dj10.symm DL.nil)
        replace hM := hM.upL hs89 (DL.cons dj6.symm DL.nil)
        replace fam := fun u => (fam u).upL hs89 (DFL.cons fghL DFL.nil)
        replace ow := ow.upL hs89 (DL.cons dj179.symm DL.nil)
        replace oo := oo.upL hs89 (DL.cons dj165.symm DL.nil)
        replace vq := vq.upL hs89 (DL.cons dj188.symm DL.nil)
        replace hm0 := (Mo.trL (ks := []) (hm0.mdn []) hs89 (MIL.cons (MI.app MI.z (nx3) (Nat.le_refl _)) MIL.nil)).nil
        replace hlm3 := hlm3.trL hs89 (MIL.cons (MI.app (MI.root (by simp)) (nx_hlm3_hL) (Nat.le_refl _)) MIL.nil)
        replace hlm4 := hlm4.trL hs89 (MIL.cons (MI.app (MI.root (by simp)) (nx_hlm4_hL) (Nat.le_refl _)) MIL.nil)
        have hz27 := hs89.size
        have hq89 := And.intro (show Mp _ vA (Value.int .i64) H0.size L4 from by have h9 := hL.mp; rwa [ment_old (by rw [hl4]; rfl)] at h9) hs89
        refine ⟨.inr hq89, ?_⟩
        refine LH.take 5 (by kernel_rfl) rfl (by kernel_rfl) (by kernel_rfl) (by kernel_rfl) (fun Hq hq => Y.extract rfl rfl rfl) (Wd.u rfl) rfl rfl hq89 ?_
        refine LH.one (i := 6) (by kernel_rfl) ?_
        refine LO.s rfl (S.entA ((n4 : Int)) hL keyId.inj rfl rfl rfl rfl) (Wd.u rfl) rfl (fun H27_6 r27_6 => ?_)
        obtain ⟨hL, hs27_6⟩ := r27_6
        rw [ment_put] at hL
        replace hs27_6 := hs27_6.md1
        replace hc := hc.upL hs27_6 (DFL.cons df1 DFL.nil)
        replace hso := hso.upL hs27_6 (DL.cons dj2 DL.nil)
        replace it := it.upL hs27_6 (DL.cons dj10.symm DL.nil)
        replace hM := hM.upL hs27_6 (DL.cons dj6.symm DL.nil)
        replace fam := fun u => (fam u).upL hs27_6 (DFL.cons fghL DFL.nil)
        replace ow := ow.upL hs27_6 (DL.cons dj179.symm DL.nil)
        replace oo := oo.upL hs27_6 (DL.cons dj165.symm DL.nil)
        replace vq := vq.upL hs27_6 (DL.cons dj188.symm DL.nil)
        replace hm0 := (Mo.trL (ks := []) (hm0.mdn []) hs27_6 (MIL.cons (MI.app MI.z (nx3) (Nat.le_refl _)) MIL.nil)).nil
        replace hlm3 := hlm3.trL hs27_6 (MIL.cons (MI.app (MI.root (by simp)) (nx_hlm3_hL) (Nat.le_refl _)) MIL.nil)
        replace hlm4 := hlm4.trL hs27_6 (MIL.cons (MI.app (MI.root (by simp)) (nx_hlm4_hL) (Nat.le_refl _)) MIL.nil)
        have hz28 := hs27_6.size
        refine ⟨.inl rfl, ?_⟩
        refine LH.done (by kernel_rfl) ?_
        have hqe := hq89
        refine hK46 _ _ ?_
        refine CW.seq (fun K47 hK47 hE47 => ?_)
        refine CW.region ?_
        refine LR.v (Y.move rfl rfl) (Wd.u rfl) rfl rfl ?_
        refine LR.v (Y.loadN vq.pt rfl Try.isAgg30 Try.sizeOf30 (fA_len _) rfl) (Wd.u rfl) rfl rfl ?_
        refine LR.v (Y.cast (v2 := .int .i64 (n4 : Int)) (Y.lookupA hL.mo keyId rfl Try.runUnderlying72 Try.zeroValue3 rfl rfl) (by rw [mget_put, if_pos rfl]; rfl)) (Wd.u rfl) rfl rfl ?_
        refine LR.v (Y.eql rfl rfl rfl) (Wd.u rfl) rfl rfl ?_
        refine LR.nil ?_
        refine hK47 _ _ ?_
        refine CW.condp rfl (fun c94 => ?_) (fun c94 => ?_)
        ·
          refine CW.seq (fun K48 hK48 hE48 => ?_)
          refine CW.region ?_
          refine LR.v (Y.move rfl rfl) (Wd.u rfl) rfl rfl ?_
          refine LR.v (Y.loadN vq.pt rfl Try.isAgg30 Try.sizeOf30 (fA_len _) rfl) (Wd.u rfl) rfl rfl ?_
          -- call slices.BinarySearchFunc[[]selvage/api.Id,selvage/api.Id,selvage/api.Id]
          refine LR.call rfl Try.call39 rfl (Wd.u rfl) rfl rfl (bsf_ct _ rd4 k4 w0 _ ow.rd.any (by omega) hP4.ris) (fun v98 H98 r98 => ?_)
          obtain ⟨pos, fd, rfl, hpos, hs98⟩ := r98
          replace hc := hc.nw hs98
          replace hso := hso.nw hs98
          replace it := it.nw hs98
          replace hM := hM.nw hs98
          replace fam := fun u => (fam u).nw hs98
          replace ow := ow.nw hs98
          replace oo := oo.nw hs98
          replace hL := hL.nw hs98
          replace vq := vq.nw hs98
          replace hm0 := hm0.tr hs98
          replace hlm3 := hlm3.trN hs98
          replace hlm4 := hlm4.trN hs98
          have hz29 := hs98.size
          refine LR.v (Y.move rfl rfl) (Wd.u rfl) rfl rfl ?_
          refine LR.v (Y.extract rfl rfl rfl) (Wd.u rfl) rfl rfl ?_
          refine LR.v (Y.extract rfl rfl rfl) (Wd.u rfl) rfl rfl ?_
          refine LR.v (Y.assign rfl rfl) (Wd.u rfl) rfl rfl ?_
          refine LR.v (Y.assign rfl rfl) (Wd.u rfl) rfl rfl ?_
          refine LR.nil ?_
          refine hK48 _ _ ?_
          refine CW.region_any (fun Hq => Nw H98 Hq) [6] rfl ?_
          have hq30 : Nw H98 H98 := Mo.refl _ _
          refine LH.take 0 (by kernel_rfl) rfl (by kernel_rfl) (by kernel_rfl) (by kernel_rfl) (fun Hq hq => Y.move rfl rfl) (Wd.u rfl) rfl rfl hq30 ?_
          refine LH.take 2 (by kernel_rfl) rfl (by kernel_rfl) (by kernel_rfl) (by kernel_rfl) (fun Hq hq => Y.move rfl rfl) (Wd.u rfl) rfl rfl hq30 ?_
          refine LH.take 3 (by kernel_rfl) rfl (by kernel_rfl) (by kernel_rfl) (by kernel_rfl) (fun Hq hq => Y.loadN (vq.pt.nw hq) rfl Try.isAgg30 Try.sizeOf30 (fA_len _) rfl) (Wd.u rfl) rfl rfl hq30 ?_
          refine LH.two (i := 1) (j := 4) (by kernel_rfl) ?_ ?_
          ·
            -- call slices.Clone[[]selvage/api.Id,selvage/api.Id]
            refine LO.call rfl rfl Try.call37 rfl (Wd.u rfl) rfl rfl (iclone_ct _ rd4 w0 _ ow.rd.any (by omega)) (fun v102 H102 r102 => ?_)
            obtain ⟨s102, k102, rfl, oc, hk102, hs102⟩ := r102
            have df193 := DF.app (DF.z) (bf_hc.mono hm0.size) hk102
            have dj194 : Dj (sb + 1) k102 := Dj.app (Dj.z) hso.lt hk102
            have dj195 : Dj (H21.size + 1) k102 := Dj.app (Dj.z) it.lt hk102
            have dj196 : Dj (H20.size + 1) k102 := Dj.app (Dj.z) hM.lt hk102
            have df197 := DF.app (DF.z) (bf_fam.mono (by omega)) hk102
            have dj198 : Dj kr4 k102 := Dj.app (Dj.z) ow.le hk102
            have dj199 : Dj k76 k102 := Dj.app (Dj.z) oo.le hk102
            have dj200 : Dj (H0.size + 1) k102 := Dj.app (Dj.z) hL.lt hk102
            have dj201 : Dj (HL4.size + 1) k102 := Dj.app (Dj.z) vq.lt hk102
            have nx202 : Nx 0 H0.size k102 := Nx.tr (Nx.refl 0 _) hk102 hm0.size
            have nx203 : Nx 0 H64.size k102 := Nx.tr (Nx.refl 0 _) hk102 hlm3.size
            have nx204 : Nx 0 H76.size k102 := Nx.tr (Nx.refl 0 _) hk102 hlm4.size
            have nx205 : Nx 0 H98.size k102 := Nx.tr (Nx.refl 0 _) hk102 hq30.size
            replace hc := hc.nw hs102
            replace hso := hso.nw hs102
            replace it := it.nw hs102
            replace hM := hM.nw hs102
            replace fam := fun u => (fam u).nw hs102
            replace ow := ow.nw hs102
            replace oo := oo.nw hs102
            replace hL := hL.nw hs102
            replace vq := vq.nw hs102
            replace hm0 := hm0.tr hs102
            replace hlm3 := hlm3.trN hs102
            replace hlm4 := hlm4.trN hs102
            replace hq30 := hq30.tr hs102
            have hz30 := hs102.size
            have hle_oc := oc.le
            refine ⟨.inr hq30, LH.narrow (SH2 := fun Hq => Mo (Ms [k102]) H102 Hq) (fun Hq hq => (Mo.trL (ks := []) (hq30.mdn []) hq (MIL.cons (MI.app MI.z (nx205) (Nat.le_refl _)) MIL.nil)).nil) ?_⟩
            have hq30 : Mo (Ms [k102]) H102 H102 := Mo.refl _ _
            have nx206 := Nx.refl k102 H102.size
            refine LH.one (i := 4) (by kernel_rfl) ?_
            refine LO.z rfl (Z.litz _ [k4] rfl inf28 rfl rfl rfl (by decide) (by decide) fA_len fA_one rfl) (Wd.u rfl) rfl rfl (fun v105 H105 r105 => ?_)
            obtain ⟨nw105, hs105, ob105, hH105⟩ := r105
            have hzs105 : H105.size = H102.size + 1 := by rw [hH105]; simp
            have df207 := (DF.new (bf_hc.mono hm0.size) : DF _ (H102.size + 1))
            have dj208 : Dj (sb + 1) (H102.size + 1) := Dj.new hso.lt
            have dj209 : Dj (H21.size + 1) (H102.size + 1) := Dj.new it.lt
            have dj210 : Dj (H20.size + 1) (H102.size + 1) := Dj.new hM.lt
            have df211 := (DF.new (bf_fam.mono (by omega)) : DF _ (H102.size + 1))
            have dj212 : Dj kr4 (H102.size + 1) := Dj.new ow.le
            have dj213 : Dj k76 (H102.size + 1) := Dj.new oo.le
            have dj214 : Dj (H0.size + 1) (H102.size + 1) := Dj.new hL.lt
            have dj215 : Dj (HL4.size + 1) (H102.size + 1) := Dj.new vq.lt
            have dj216 : Dj k102 (H102.size + 1) := Dj.new oc.le
            have nx217 : Nx 0 H0.size (H102.size + 1) := Nx.new hm0.size
            have nx218 : Nx 0 H64.size (H102.size + 1) := Nx.new hlm3.size
            have nx219 : Nx 0 H76.size (H102.size + 1) := Nx.new hlm4.size
            have nx220 : Nx 0 H102.size (H102.size + 1) := Nx.new hq30.size
            replace hc := hc.nw hs105
            replace hso := hso.nw hs105
            replace it := it.nw hs105
            replace hM := hM.nw hs105
            replace fam := fun u => (fam u).nw hs105
            replace ow := ow.nw hs105
            replace oo := oo.nw hs105
            replace hL := hL.nw hs105
            replace vq := vq.nw hs105
            replace oc := oc.nw hs105
            replace hm0 := hm0.tr hs105
            replace hlm3 := hlm3.trN hs105
            replace hlm4 := hlm4.trN hs105
            replace hq30 := hq30.trN hs105
            have hz31 := hs105.size
            refine ⟨.inr hq30, LH.narrow (SH2 := fun Hq => Mo (Ms [k102, (H102.size + 1)]) H105 Hq) (fun Hq hq => hq30.trL hq (MIL.cons (MI.app (MI.root (by simp)) (nx206) (Nat.le_refl _)) (MIL.cons (MI.app MI.z (nx220) (Nat.le_refl _)) MIL.nil))) ?_⟩
            have hq30 : Mo (Ms [k102, (H102.size + 1)]) H105 H105 := Mo.refl _ _
            have nx221 := Nx.refl k102 H105.size
            have nx222 := Nx.refl (H102.size + 1) H105.size
            refine LH.one (i := 5) (by kernel_rfl) ?_
            -- call slices.Insert[[]selvage/api.Id,selvage/api.Id]
            refine LO.call rfl rfl Try.call40 rfl (Wd.u rfl) rfl rfl (insert_ct k102 _ _ _ rd4 k4 pos w0 _ oc nw105 (dj216) hpos.1 ⟨ob105, by first | (rw [hH105]; simp; done) | (rw [hs102.same _ (by rw [hH105]; simp) (fun e => e), hH105]; simp)⟩ (by omega)) (fun v106 H106 r106 => ?_)
            have ql223 := hso.lt
            have ql224 := it.lt
            have ql225 := hM.lt
            have ql226 := ow.le
            have ql227 := oo.le
            have ql228 := hL.lt
            have ql229 := vq.lt
            have ql230 := oc.le
            have ql231 := nw105.le
            obtain ⟨v106_, k106, rfl, oc, hkr106, hs106⟩ := r106
            have df232 := DF.app (df193) (bf_hc.mono hm0.size) hkr106
            have dj233 : Dj (sb + 1) k106 := Dj.app (dj194) ql223 hkr106
            have dj234 : Dj (H21.size + 1) k106 := Dj.app (dj195) ql224 hkr106
            have dj235 : Dj (H20.size + 1) k106 := Dj.app (dj196) ql225 hkr106
            have df236 := DF.app (df197) (bf_fam.mono (by omega)) hkr106
            have dj237 : Dj kr4 k106 := Dj.app (dj198) ql226 hkr106
            have dj238 : Dj k76 k106 := Dj.app (dj199) ql227 hkr106
            have dj239 : Dj (H0.size + 1) k106 := Dj.app (dj200) ql228 hkr106
            have dj240 : Dj (HL4.size + 1) k106 := Dj.app (dj201) ql229 hkr106
            have dj241 : Dj (H102.size + 1) k106 := Dj.app (dj216.symm) ql231 hkr106
            have nx242 : Nx 0 H0.size k106 := Nx.tr (nx202) hkr106 hm0.size
            have nx243 : Nx 0 H64.size k106 := Nx.tr (nx203) hkr106 hlm3.size
            have nx244 : Nx 0 H76.size k106 := Nx.tr (nx204) hkr106 hlm4.size
            have nx245 : Nx k102 H105.size k106 := Nx.tr (nx221) hkr106 hq30.size
            replace hc := hc.upL hs106 (DFL.cons df193 DFL.nil)
            replace hso := hso.upL hs106 (DL.cons dj194 DL.nil)
            replace it := it.upL hs106 (DL.cons dj195 DL.nil)
            replace hM := hM.upL hs106 (DL.cons dj196 DL.nil)
            replace fam := fun u => (fam u).upL hs106 (DFL.cons df197 DFL.nil)
            replace ow := ow.upL hs106 (DL.cons dj198 DL.nil)
            replace oo := oo.upL hs106 (DL.cons dj199 DL.nil)
            replace hL := hL.upL hs106 (DL.cons dj200 DL.nil)
            replace vq := vq.upL hs106 (DL.cons dj201 DL.nil)
            replace nw105 := nw105.upL hs106 (DL.cons dj216.symm DL.nil)
            replace hm0 := (Mo.trL (ks := []) (hm0.mdn []) hs106 (MIL.cons (MI.app MI.z (nx202) (Nat.le_refl _)) MIL.nil)).nil
            replace hlm3 := hlm3.trL hs106 (MIL.cons (MI.app MI.z (nx203) (Nat.le_refl _)) MIL.nil)
            replace hlm4 := hlm4.trL hs106 (MIL.cons (MI.app MI.z (nx204) (Nat.le_refl _)) MIL.nil)
            replace hq30 := hq30.trL hs106 (MIL.cons (MI.app (MI.root (by simp)) (nx221) (Nat.le_refl _)) MIL.nil)
            have hz32 := hs106.size
            have hle_oc := oc.le
            refine ⟨.inr hq30, LH.narrow (SH2 := fun Hq => Mo (Ms [k106, (H102.size + 1)]) H106 Hq) (fun Hq hq => hq30.trL hq (MIL.cons (MI.app (MI.root (by simp)) (nx245) (Nat.le_refl _)) (MIL.cons (MI.app (MI.root (by simp)) (nx222) (Nat.le_refl _)) MIL.nil))) ?_⟩
            have hq30 : Mo (Ms [k106, (H102.size + 1)]) H106 H106 := Mo.refl _ _
            have nx246 := Nx.refl k106 H106.size
            have nx247 := Nx.refl (H102.size + 1) H106.size
            refine LH.one (i := 6) (by kernel_rfl) ?_
            refine LO.v rfl (Y.assign rfl rfl) (Wd.u rfl) rfl rfl (.inl rfl) ?_
            refine LH.done (by kernel_rfl) ?_
            refine hK44 _ _ ?_
            refine hK43 _ _ ?_
            refine CW.region ?_
            refine LR.v (Y.addi rfl rfl rfl (by omega)) (Wd.u rfl) rfl rfl ?_
            refine LR.v (Y.move rfl rfl) (Wd.u rfl) rfl rfl ?_
            refine LR.nil ?_
            refine QN.sub (hN40 (j + 1, v106, k106, rd4.take pos ++ k4 :: rd4.drop pos, mput L4 k4 0) _ ?_ ?_) ⟨rfl, rfl, rfl, rfl, rfl, (iv (by omega)), (iv (by omega)), trivial⟩
            · exact ⟨by rw [show (0 : Int) = (n4 : Int) by omega]; exact hL, oc.q, (by omega), hP4.zero hkK.1 hkD (by rw [← hn4]; omega) hpos, (Nx.z (nx244)), dj239, hlm4⟩
            · first | omega | (simp only; omega) | (simp; omega)
          ·
            refine LO.z rfl (Z.litz _ [k4] rfl inf28 rfl rfl rfl (by decide) (by decide) fA_len fA_one rfl) (Wd.u rfl) rfl rfl (fun v105 H105 r105 => ?_)
            obtain ⟨nw105, hs105, ob105, hH105⟩ := r105
            have hzs105 : H105.size = H98.size + 1 := by rw [hH105]; simp
            have df248 := (DF.new (bf_hc.mono hm0.size) : DF _ (H98.size + 1))
            have dj249 : Dj (sb + 1) (H98.size + 1) := Dj.new hso.lt
            have dj250 : Dj (H21.size + 1) (H98.size + 1) := Dj.new it.lt
            have dj251 : Dj (H20.size + 1) (H98.size + 1) := Dj.new hM.lt
            have df252 := (DF.new (bf_fam.mono (by omega)) : DF _ (H98.size + 1))
            have dj253 : Dj kr4 (H98.size + 1) := Dj.new ow.le
            have dj254 : Dj k76 (H98.size + 1) := Dj.new oo.le
            have dj255 : Dj (H0.size + 1) (H98.size + 1) := Dj.new hL.lt
            have dj256 : Dj (HL4.size + 1) (H98.size + 1) := Dj.new vq.lt
            have nx257 : Nx 0 H0.size (H98.size + 1) := Nx.new hm0.size
            have nx258 : Nx 0 H64.size (H98.size + 1) := Nx.new hlm3.size
            have nx259 : Nx 0 H76.size (H98.size + 1) := Nx.new hlm4.size
            have nx260 : Nx 0 H98.size (H98.size + 1) := Nx.new hq30.size
            replace hc := hc.nw hs105
            replace hso := hso.nw hs105
            replace it := it.nw hs105
            replace hM := hM.nw hs105
            replace fam := fun u => (fam u).nw hs105
            replace ow := ow.nw hs105
            replace oo := oo.nw hs105
            replace hL := hL.nw hs105
            replace vq := vq.nw hs105
            replace hm0 := hm0.tr hs105
            replace hlm3 := hlm3.trN hs105
            replace hlm4 := hlm4.trN hs105
            replace hq30 := hq30.tr hs105
            have hz33 := hs105.size
            refine ⟨.inr hq30, LH.narrow (SH2 := fun Hq => Mo (Ms [(H98.size + 1)]) H105 Hq) (fun Hq hq => (Mo.trL (ks := []) (hq30.mdn []) hq (MIL.cons (MI.app MI.z (nx260) (Nat.le_refl _)) MIL.nil)).nil) ?_⟩
            have hq30 : Mo (Ms [(H98.size + 1)]) H105 H105 := Mo.refl _ _
            have nx261 := Nx.refl (H98.size + 1) H105.size
            refine LH.one (i := 1) (by kernel_rfl) ?_
            -- call slices.Clone[[]selvage/api.Id,selvage/api.Id]
            refine LO.call rfl rfl Try.call37 rfl (Wd.u rfl) rfl rfl (iclone_ct _ rd4 w0 _ ow.rd.any (by omega)) (fun v102 H102 r102 => ?_)
            obtain ⟨s102, k102, rfl, oc, hk102, hs102⟩ := r102
            have df262 := DF.app (DF.z) (bf_hc.mono hm0.size) hk102
            have dj263 : Dj (sb + 1) k102 := Dj.app (Dj.z) hso.lt hk102
            have dj264 : Dj (H21.size + 1) k102 := Dj.app (Dj.z) it.lt hk102
            have dj265 : Dj (H20.size + 1) k102 := Dj.app (Dj.z) hM.lt hk102
            have df266 := DF.app (DF.z) (bf_fam.mono (by omega)) hk102
            have dj267 : Dj kr4 k102 := Dj.app (Dj.z) ow.le hk102
            have dj268 : Dj k76 k102 := Dj.app (Dj.z) oo.le hk102
            have dj269 : Dj (H0.size + 1) k102 := Dj.app (Dj.z) hL.lt hk102
            have dj270 : Dj (HL4.size + 1) k102 := Dj.app (Dj.z) vq.lt hk102
            have dj271 : Dj (H98.size + 1) k102 := Dj.app (Dj.z) nw105.le hk102
            have nx272 : Nx 0 H0.size k102 := Nx.tr (Nx.refl 0 _) hk102 hm0.size
            have nx273 : Nx 0 H64.size k102 := Nx.tr (Nx.refl 0 _) hk102 hlm3.size
            have nx274 : Nx 0 H76.size k102 := Nx.tr (Nx.refl 0 _) hk102 hlm4.size
            have nx275 : Nx 0 H105.size k102 := Nx.tr (Nx.refl 0 _) hk102 hq30.size
            replace hc := hc.nw hs102
            replace hso := hso.nw hs102
            replace it := it.nw hs102
            replace hM := hM.nw hs102
            replace fam := fun u => (fam u).nw hs102
            replace ow := ow.nw hs102
            replace oo := oo.nw hs102
            replace hL := hL.nw hs102
            replace vq := vq.nw hs102
            replace nw105 := nw105.nw hs102
            replace hm0 := hm0.tr hs102
            replace hlm3 := hlm3.trN hs102
            replace hlm4 := hlm4.trN hs102
            replace hq30 := hq30.trN hs102
            have hz34 := hs102.size
            have hle_oc := oc.le
            refine ⟨.inr hq30, LH.narrow (SH2 := fun Hq => Mo (Ms [(H98.size + 1), k102]) H102 Hq) (fun Hq hq => hq30.trL hq (MIL.cons (MI.app (MI.root (by simp)) (nx261) (Nat.le_refl _)) (MIL.cons (MI.app MI.z (nx275) (Nat.le_refl _)) MIL.nil))) ?_⟩
            have hq30 : Mo (Ms [(H98.size + 1), k102]) H102 H102 := Mo.refl _ _
            have nx276 := Nx.refl (H98.size + 1) H102.size
            have nx277 := Nx.refl k102 H102.size
            refine LH.one (i := 5) (by kernel_rfl) ?_
            -- call slices.Insert[[]selvage/api.Id,selvage/api.Id]
            refine LO.call rfl rfl Try.call40 rfl (Wd.u rfl) rfl rfl (insert_ct k102 _ _ _ rd4 k4 pos w0 _ oc nw105 (dj271.symm) hpos.1 ⟨ob105, by first | (rw [hH105]; simp; done) | (rw [hs102.same _ (by rw [hH105]; simp) (fun e => e), hH105]; simp)⟩ (by omega)) (fun v106 H106 r106 => ?_)
            have ql278 := hso.lt
            have ql279 := it.lt
            have ql280 := hM.lt
            have ql281 := ow.le
            have ql282 := oo.le
            have ql283 := hL.lt
            have ql284 := vq.lt
            have ql285 := nw105.le
            have ql286 := oc.le
            obtain ⟨v106_, k106, rfl, oc, hkr106, hs106⟩ := r106
            have df287 := DF.app (df262) (bf_hc.mono hm0.size) hkr106
            have dj288 : Dj (sb + 1) k106 := Dj.app (dj263) ql278 hkr106
            have dj289 : Dj (H21.size + 1) k106 := Dj.app (dj264) ql279 hkr106
            have dj290 : Dj (H20.size + 1) k106 := Dj.app (dj265) ql280 hkr106
            have df291 := DF.app (df266) (bf_fam.mono (by omega)) hkr106
            have dj292 : Dj kr4 k106 := Dj.app (dj267) ql281 hkr106
            have dj293 : Dj k76 k106 := Dj.app (dj268) ql282 hkr106
            have dj294 : Dj (H0.size + 1) k106 := Dj.app (dj269) ql283 hkr106
            have dj295 : Dj (HL4.size + 1) k106 := Dj.app (dj270) ql284 hkr106
            have dj296 : Dj (H98.size + 1) k106 := Dj.app (dj271) ql285 hkr106
            have nx297 : Nx 0 H0.size k106 := Nx.tr (nx272) hkr106 hm0.size
            have nx298 : Nx 0 H64.size k106 := Nx.tr (nx273) hkr106 hlm3.size
            have nx299 : Nx 0 H76.size k106 := Nx.tr (nx274) hkr106 hlm4.size
            have nx300 : Nx k102 H102.size k106 := Nx.tr (nx277) hkr106 hq30.size
            replace hc := hc.upL hs106 (DFL.cons df262 DFL.nil)
            replace hso := hso.upL hs106 (DL.cons dj263 DL.nil)
            replace it := it.upL hs106 (DL.cons dj264 DL.nil)
            replace hM := hM.upL hs106 (DL.cons dj265 DL.nil)
            replace fam := fun u => (fam u).upL hs106 (DFL.cons df266 DFL.nil)
            replace ow := ow.upL hs106 (DL.cons dj267 DL.nil)
            replace oo := oo.upL hs106 (DL.cons dj268 DL.nil)
            replace hL := hL.upL hs106 (DL.cons dj269 DL.nil)
            replace vq := vq.upL hs106 (DL.cons dj270 DL.nil)
            replace nw105 := nw105.upL hs106 (DL.cons dj271 DL.nil)
            replace hm0 := (Mo.trL (ks := []) (hm0.mdn []) hs106 (MIL.cons (MI.app MI.z (nx272) (Nat.le_refl _)) MIL.nil)).nil
            replace hlm3 := hlm3.trL hs106 (MIL.cons (MI.app MI.z (nx273) (Nat.le_refl _)) MIL.nil)
            replace hlm4 := hlm4.trL hs106 (MIL.cons (MI.app MI.z (nx274) (Nat.le_refl _)) MIL.nil)
            replace hq30 := hq30.trL hs106 (MIL.cons (MI.app (MI.root (by simp)) (nx277) (Nat.le_refl _)) MIL.nil)
            have hz35 := hs106.size
            have hle_oc := oc.le
            refine ⟨.inr hq30, LH.narrow (SH2 := fun Hq => Mo (Ms [(H98.size + 1), k106]) H106 Hq) (fun Hq hq => hq30.trL hq (MIL.cons (MI.app (MI.root (by simp)) (nx276) (Nat.le_refl _)) (MIL.cons (MI.app (MI.root (by simp)) (nx300) (Nat.le_refl _)) MIL.nil))) ?_⟩
            have hq30 : Mo (Ms [(H98.size + 1), k106]) H106 H106 := Mo.refl _ _
            have nx301 := Nx.refl (H98.size + 1) H106.size
            have nx302 := Nx.refl k106 H106.size
            refine LH.one (i := 6) (by kernel_rfl) ?_
            refine LO.v rfl (Y.assign rfl rfl) (Wd.u rfl) rfl rfl (.inl rfl) ?_
            refine LH.done (by kernel_rfl) ?_
            refine hK44 _ _ ?_
            refine hK43 _ _ ?_
            refine CW.region ?_
            refine LR.v (Y.addi rfl rfl rfl (by omega)) (Wd.u rfl) rfl rfl ?_
            refine LR.v (Y.move rfl rfl) (Wd.u rfl) rfl rfl ?_
            refine LR.nil ?_
            refine QN.sub (hN40 (j + 1, v106, k106, rd4.take pos ++ k4 :: rd4.drop pos, mput L4 k4 0) _ ?_ ?_) ⟨rfl, rfl, rfl, rfl, rfl, (iv (by omega)), (iv (by omega)), trivial⟩
            · exact ⟨by rw [show (0 : Int) = (n4 : Int) by omega]; exact hL, oc.q, (by omega), hP4.zero hkK.1 hkD (by rw [← hn4]; omega) hpos, (Nx.z (nx299)), dj294, hlm4⟩
            · first | omega | (simp only; omega) | (simp; omega)
        ·
          refine CW.skip ?_
          refine hK44 _ _ ?_
          refine hK43 _ _ ?_
          refine CW.region ?_
          refine LR.v (Y.addi rfl rfl rfl (by omega)) (Wd.u rfl) rfl rfl ?_
          refine LR.v (Y.move rfl rfl) (Wd.u rfl) rfl rfl ?_
          refine LR.nil ?_
          refine QN.sub (hN40 (j + 1, vr4, kr4, rd4, mput L4 k4 (n4 : Int)) _ ?_ ?_) ⟨rfl, rfl, rfl, rfl, rfl, (iv (by omega)), (iv (by omega)), trivial⟩
          · exact ⟨hL, ow, (by omega), hP4.less hkK.1 hn4.symm (by omega), nx180, dj179, hlm4⟩
          · first | omega | (simp only; omega) | (simp; omega)
      ·
        have hje : j = (ch i).length := by omega
        rw [hje, List.drop_length] at hP4
        refine CW.exit (hE42 (.exit 6) nofun _ _ (hE40 (.exit 6) nofun _ _ (hX39 _ _ ?_)))
        refine hK34 _ _ ?_
        have hPn := hP2.next hP3
        have hDl2 := nodup_le hPn.dnd hPn.dsub
        rw [List.length_append, List.length_map, List.length_singleton] at hDl2
        refine QN.sub (hN31 (vr4, kr4, rd4, v76, k76, D ++ [i], L4) _ ?_ ?_) ⟨rfl, rfl, rfl, rfl, trivial⟩
        · exact ⟨hL, ow, oo, hPn, hP4, nx178, nx170, dj179, dj165, dj176.symm, hlm3⟩
        · simp <;> omega
    ·
      have hrd : rd3 = [] := List.eq_nil_of_length_eq_zero (by omega)
      rw [hrd] at hP3
      obtain ⟨s8, hs8⟩ : ∃ s : SV, vo = s.v := ⟨toSV vo, oo.sv.symm⟩
      refine CW.exit (hE32 (.exit 4) nofun _ _ (hE31 (.exit 4) nofun _ _ (hX30 _ _ ?_)))
      refine hK29 _ _ ?_
      refine CW.seq (fun K49 hK49 hE49 => ?_)
      refine CW.region ?_
      refine LR.v (Y.move rfl rfl) (Wd.u rfl) rfl rfl ?_
      refine LR.v (Y.assign rfl rfl) (Wd.u rfl) rfl rfl ?_
      refine LR.nil ?_
      refine hK49 _ _ ?_
      refine CW.ret (hret .ret (.inr rfl) _ _ _ (res1 rfl rfl) ?_)
      exact ⟨s8, ko, D, hs8, by rw [← hs8]; exact oo, nx133, hP2.done hP3 hac, hm0⟩

end Go.Proofs.Ytepdhokpfecdnaa.GraH
/-
  Whether a commit stands above another one; how long the longest way up is.
-/
namespace Go.Proofs.Ytepdhokpfecdnaa.GraI
open Go.Proofs.Ytepdhokpfecdnaa.E Go.RowKit Go.Proofs.Ytepdhokpfecdnaa.GraA Go.Proofs.Ytepdhokpfecdnaa.GraB Go.Proofs.Ytepdhokpfecdnaa.GraC Go.Proofs.Ytepdhokpfecdnaa.GraD Go.Proofs.Ytepdhokpfecdnaa.GraE Go.Proofs.Ytepdhokpfecdnaa.GraF Go.Proofs.Ytepdhokpfecdnaa.GraG Go.Proofs.Ytepdhokpfecdnaa.GraH
set_option maxRecDepth 20000
set_option linter.unusedVariables false
set_option linter.unusedSimpArgs false
set_option linter.unusedSectionVars false
set_option maxRecDepth 100000 in
theorem inf28 : Inf Try.prog 28 30 32 32 := ⟨Try.underlying28, _, _, rfl, rfl, rfl, rfl, rfl⟩
set_option maxRecDepth 100000 in
theorem inf92 : Inf Try.prog 92 28 1 24 := ⟨Try.underlying92, _, _, rfl, rfl, rfl, rfl, rfl⟩

theorem Ow.ne {α : Type} {k sb : Nat} {e : TypeId} {H : Heap} {f : α → List Value} {sz : Nat} {v : Value} {l : List α} (x : Ow k e H f sz v l) (d : Dj (sb + 1) k) : Rd (fun b => b ≠ sb) H f sz v l := x.rd.imp (fun b _ e e2 => d b (by rw [e2]) e)
theorem Up.trans {pa : Ide → List Ide} {i j k : Ide} (h : Up pa i j) (h2 : Up pa j k) : Up pa i k := by
  induction h2 with
  | refl => exact h
  | step _ hp ih => exact ih.step hp
theorem UpO.trans {pa : Ide → Option (List Ide)} {i j k : Ide} (h : UpO pa i j) (h2 : UpO pa j k) : UpO pa i k := by
  induction h2 with
  | refl => exact h
  | step _ hq hp ih => exact ih.step hq hp
section
variable {pa : Ide → Option (List Ide)} {st K : List Ide}
theorem all0 (h : AllR pa st K 0) : K.Nodup ∧ (∀ k ∈ K, ∃ ps, pa k = some ps ∧ ∀ p ∈ ps, p ∈ K) ∧ (∀ k ∈ st, k ∈ K) ∧ (∀ k ∈ K, ∃ i ∈ st, UpO pa i k) ∧ K.length ≤ 5000 := by
  rcases h with ⟨_, h⟩ | ⟨h, _⟩ | ⟨h, _⟩
  · exact h
  · cases h
  · cases h
/-- within the commits that were told, above is above -/
theorem up_iff (h : AllR pa st K 0) {i k : Ide} (hi : i ∈ K) : Up (cpa pa K) i k ↔ UpO pa i k := by
  obtain ⟨_, h1, _⟩ := all0 h
  constructor
  · intro hu
    have key : UpO pa i k ∧ k ∈ K := by
      induction hu with
      | refl => exact ⟨.refl, hi⟩
      | @step j p _ hp ih =>
        obtain ⟨ps, e1, e2⟩ := h1 j ih.2
        unfold cpa at hp
        rw [if_pos ih.2, e1] at hp
        exact ⟨ih.1.step e1 hp, e2 p hp⟩
    exact key.1
  · intro hu
    have key : Up (cpa pa K) i k ∧ k ∈ K := by
      induction hu with
      | refl => exact ⟨.refl, hi⟩
      | @step j p ps _ hq hp ih =>
        obtain ⟨qs, e1, e2⟩ := h1 j ih.2
        rw [e1] at hq
        cases hq
        exact ⟨ih.1.step (by unfold cpa; rw [if_pos ih.2, e1]; exact hp), e2 p hp⟩
    exact key.1
theorem cpa_ac {rk : Ide → Nat} (hac : ∀ k ps, pa k = some ps → ∀ p ∈ ps, rk p < rk k) : ∀ k, ∀ p ∈ cpa pa K k, rk p < rk k := by
  intro k p hp
  unfold cpa at hp
  split at hp
  · cases h : pa k with
    | none => rw [h] at hp; cases hp
    | some ps => rw [h] at hp; exact hac k ps h p hp
  · cases hp
end
/-- what Above tells -/
def AbR (pa : Ide → Option (List Ide)) (a b : Ide) (up : Bool) (e : Nat) : Prop := (∃ K, AllR pa [a, b] K e) ∧ (e = 0 → (up = true ↔ UpO pa b a)) ∧ (e ≠ 0 → up = false)

theorem abv_ct (So : Sou) (sb n : Nat) (F : Nat → Prop) (a b : Ide) (w0 : World) (H0 : Heap)
    (hv : Var So.e H0 sb (So.cs n)) (hsr : SRd F H0 So) (bf_hsr : BF F H0.size) (dfs : DF F (sb + 1)) (hok : So.ok) (hn : n ≤ 800000000) :
    Ct Try.prog w0 16 #[So.v sb, vA a, vA b] H0 (fun r H2 => ∃ up : Bool, ∃ e : Nat, ∃ q : Nat, r = .tuple #[.bool up, eV e] ∧ (Var So.e H2 sb (So.cs q)) ∧ (AbR So.pa a b up e) ∧ (q ≤ n + 5001) ∧ Mo (Ms [(sb + 1)]) H0 H2) := by
  refine Ct.enter (args := [So.v sb, vA a, vA b]) Try.func16 rfl rfl rfl ?_
  intro Q0 hret
  have hm0 : Mo (Ms [(sb + 1)]) H0 H0 := Mo.refl _ _
  have nx_hm0_hv := Nx.refl (sb + 1) H0.size
  have hlt_hv := hv.lt
  refine CW.seq (fun K1 hK1 hE1 => ?_)
  refine CW.region ?_
  refine LR.z (Z.boxv rfl rfl) (Wd.u rfl) rfl rfl (fun v4 H4 r4 => ?_)
  obtain ⟨rfl, va, hs4, ob4, hH4⟩ := r4
  have hzs4 : H4.size = H0.size + 1 := by rw [hH4]; simp
  have dj1 : Dj (sb + 1) (H0.size + 1) := Dj.new hv.lt
  have df2 := (DF.new (bf_hsr.mono hm0.size) : DF _ (H0.size + 1))
  have nx3 : Nx 0 H0.size (H0.size + 1) := Nx.new hm0.size
  replace hv := hv.nw hs4
  replace hsr := hsr.nw hs4
  replace hm0 := hm0.trN hs4
  have hz1 := hs4.size
  replace va : Var 30 H4 H0.size (fA a) := va
  refine LR.z (Z.boxv rfl rfl) (Wd.u rfl) rfl rfl (fun v5 H5 r5 => ?_)
  obtain ⟨rfl, vb, hs5, ob5, hH5⟩ := r5
  have hzs5 : H5.size = H4.size + 1 := by rw [hH5]; simp
  have dj4 : Dj (sb + 1) (H4.size + 1) := Dj.new hv.lt
  have df5 := (DF.new (bf_hsr.mono hm0.size) : DF _ (H4.size + 1))
  have dj6 : Dj (H0.size + 1) (H4.size + 1) := Dj.new va.lt
  have nx7 : Nx 0 H0.size (H4.size + 1) := Nx.new hm0.size
  replace hv := hv.nw hs5
  replace hsr := hsr.nw hs5
  replace va := va.nw hs5
  replace hm0 := hm0.trN hs5
  have hz2 := hs5.size
  replace vb : Var 30 H5 H4.size (fA b) := vb
  refine LR.v (Y.assign rfl rfl) (Wd.u rfl) rfl rfl ?_
  refine LR.v (Y.assign rfl rfl) (Wd.u rfl) rfl rfl ?_
  refine LR.nil ?_
  refine hK1 _ _ ?_
  refine CW.seq (fun K2 hK2 hE2 => ?_)
  refine CW.region ?_
  refine LR.v (Y.move rfl rfl) (Wd.u rfl) rfl rfl ?_
  refine LR.v (Y.loadN va.pt rfl Try.isAgg30 Try.sizeOf30 (fA_len _) rfl) (Wd.u rfl) rfl rfl ?_
  refine LR.v (Y.loadN vb.pt rfl Try.isAgg30 Try.sizeOf30 (fA_len _) rfl) (Wd.u rfl) rfl rfl ?_
  refine LR.z (Z.litw _ ([a, b]) rfl inf28 rfl rfl rfl (by decide) (by decide) fA_len fA_one (rfl)) (Wd.u rfl) rfl rfl (fun v16 H16 r16 => ?_)
  obtain ⟨ow16, hs16, ob16, hH16⟩ := r16
  have hzs16 : H16.size = H5.size + 1 := by rw [hH16]; simp
  have dj8 : Dj (sb + 1) (H5.size + 1) := Dj.new hv.lt
  have df9 := (DF.new (bf_hsr.mono hm0.size) : DF _ (H5.size + 1))
  have dj10 : Dj (H0.size + 1) (H5.size + 1) := Dj.new va.lt
  have dj11 : Dj (H4.size + 1) (H5.size + 1) := Dj.new vb.lt
  have nx12 : Nx 0 H0.size (H5.size + 1) := Nx.new hm0.size
  replace hv := hv.nw hs16
  replace hsr := hsr.nw hs16
  replace va := va.nw hs16
  replace vb := vb.nw hs16
  replace hm0 := hm0.trN hs16
  have hz3 := hs16.size
  obtain ⟨s16, rfl⟩ : ∃ s : SV, v16 = s.v := ⟨toSV v16, ow16.sv.symm⟩
  refine LR.z (Z.litw _ ([(s16, [a, b])]) rfl inf92 rfl rfl rfl (by decide) (by decide) fLs_len fLs_one (rfl)) (Wd.u rfl) rfl rfl (fun v17 H17 r17 => ?_)
  obtain ⟨ow17, hs17, ob17, hH17⟩ := r17
  have hzs17 : H17.size = H16.size + 1 := by rw [hH17]; simp
  have dj13 : Dj (sb + 1) (H16.size + 1) := Dj.new hv.lt
  have df14 := (DF.new (bf_hsr.mono hm0.size) : DF _ (H16.size + 1))
  have dj15 : Dj (H0.size + 1) (H16.size + 1) := Dj.new va.lt
  have dj16 : Dj (H4.size + 1) (H16.size + 1) := Dj.new vb.lt
  have dj17 : Dj (H5.size + 1) (H16.size + 1) := Dj.new ow16.le
  have nx18 : Nx 0 H0.size (H16.size + 1) := Nx.new hm0.size
  replace hv := hv.nw hs17
  replace hsr := hsr.nw hs17
  replace va := va.nw hs17
  replace vb := vb.nw hs17
  replace ow16 := ow16.nw hs17
  replace hm0 := hm0.trN hs17
  have hz4 := hs17.size
  -- call selvage/graph.all
  refine LR.call rfl Try.call27 rfl (Wd.u rfl) rfl rfl (all_ct So sb n _ _ [(s16, [a, b])] w0 _ hv hsr (bf_hsr.mono hm0.size) dfs hok (by omega) (Ow.ne ow17 (dj13)) (by simp) (fun x hx => by rw [List.mem_singleton.1 hx]; exact Ow.ne ow16 (dj8)) (by simp)) (fun v18 H18 r18 => ?_)
  obtain ⟨vc, m, e, q, rfl, hc, hv, hA, hq, hs18⟩ := r18
  replace hsr := hsr.upL hs18 (DFL.cons dfs DFL.nil)
  replace va := va.upL hs18 (DL.cons dj1.symm DL.nil)
  replace vb := vb.upL hs18 (DL.cons dj4.symm DL.nil)
  replace ow16 := ow16.upL hs18 (DL.cons dj8.symm DL.nil)
  replace ow17 := ow17.upL hs18 (DL.cons dj13.symm DL.nil)
  replace hm0 := hm0.trL hs18 (MIL.cons (MI.app (MI.root (by simp)) (nx_hm0_hv) (Nat.le_refl _)) MIL.nil)
  have hz5 := hs18.size
  replace hc := hc.bnd
  have bf_hc := hc.bf
  have df19 : DF (fun b => H17.size ≤ b ∧ b < H18.size) (sb + 1) := DF.above (fun b h => h.1) (by first | exact hle_hv | exact hlt_hv | omega)
  have df20 : DF (fun b => H17.size ≤ b ∧ b < H18.size) (H0.size + 1) := DF.above (fun b h => h.1) (by first | exact hle_va | exact hlt_va | omega)
  have df21 : DF (fun b => H17.size ≤ b ∧ b < H18.size) (H4.size + 1) := DF.above (fun b h => h.1) (by first | exact hle_vb | exact hlt_vb | omega)
  have df22 : DF (fun b => H17.size ≤ b ∧ b < H18.size) (H5.size + 1) := DF.above (fun b h => h.1) (by first | exact hle_ow16 | exact hlt_ow16 | omega)
  have df23 : DF (fun b => H17.size ≤ b ∧ b < H18.size) (H16.size + 1) := DF.above (fun b h => h.1) (by first | exact hle_ow17 | exact hlt_ow17 | omega)
  refine LR.v (Y.move rfl rfl) (Wd.u rfl) rfl rfl ?_
  refine LR.v (Y.extract rfl rfl rfl) (Wd.u rfl) rfl rfl ?_
  refine LR.v (Y.extract rfl rfl rfl) (Wd.u rfl) rfl rfl ?_
  refine LR.v (Y.assign rfl rfl) (Wd.u rfl) rfl rfl ?_
  refine LR.v (Y.assign rfl rfl) (Wd.u rfl) rfl rfl ?_
  refine LR.nil ?_
  refine hK2 _ _ ?_
  refine CW.seq (fun K3 hK3 hE3 => ?_)
  refine CW.seq (fun K4 hK4 hE4 => ?_)
  refine CW.region ?_
  refine LR.v (Y.move rfl rfl) (Wd.u rfl) rfl rfl ?_
  refine LR.v (Y.ene rfl Try.underlying33 rfl) (Wd.u rfl) rfl rfl ?_
  refine LR.nil ?_
  refine hK4 _ _ ?_
  refine CW.condp rfl (fun c22 => ?_) (fun c22 => ?_)
  ·
    refine CW.seq (fun K5 hK5 hE5 => ?_)
    refine CW.region ?_
    refine LR.v (Y.move rfl rfl) (Wd.u rfl) rfl rfl ?_
    refine LR.v (Y.assign rfl rfl) (Wd.u rfl) rfl rfl ?_
    refine LR.v (Y.assign rfl rfl) (Wd.u rfl) rfl rfl ?_
    refine LR.nil ?_
    refine hK5 _ _ ?_
    refine CW.ret (hE3 .ret nofun _ _ (hret .ret (.inr rfl) _ _ _ (res2 rfl rfl rfl) ?_))
    exact ⟨false, e, q, rfl, hv, ⟨⟨_, hA⟩, fun h => absurd h c22, fun _ => rfl⟩, by omega, hm0⟩
  ·
    obtain rfl : e = 0 := by omega
    replace hA : AllR So.pa [a, b] (m.map (·.1)) 0 := hA
    replace hc := hc.get rfl
    have hco := cok_of hok hA
    obtain ⟨_, _, hstK, _, _⟩ := all0 hA
    have hml := hco.le
    refine CW.skip ?_
    refine hK3 _ _ ?_
    refine CW.seq (fun K6 hK6 hE6 => ?_)
    refine CW.region_any (fun Hq => Nw H18 Hq) [] rfl ?_
    have hqs := Nw.refl H18
    refine LH.take 0 (by kernel_rfl) rfl (by kernel_rfl) (by kernel_rfl) (by kernel_rfl) (fun Hq hq => Y.move rfl rfl) (Wd.u rfl) rfl rfl hqs ?_
    refine LH.take 1 (by kernel_rfl) rfl (by kernel_rfl) (by kernel_rfl) (by kernel_rfl) (fun Hq hq => Y.loadN (vb.pt.nw hq) rfl Try.isAgg30 Try.sizeOf30 (fA_len _) rfl) (Wd.u rfl) rfl rfl hqs ?_
    refine LH.take 4 (by kernel_rfl) rfl (by kernel_rfl) (by kernel_rfl) (by kernel_rfl) (fun Hq hq => Y.loadN (va.pt.nw hq) rfl Try.isAgg30 Try.sizeOf30 (fA_len _) rfl) (Wd.u rfl) rfl rfl hqs ?_
    refine LH.one (i := 2) (by kernel_rfl) ?_
    refine LO.z rfl (Z.litw _ ([b]) rfl inf28 rfl rfl rfl (by decide) (by decide) fA_len fA_one (rfl)) (Wd.u rfl) rfl rfl (fun v27 H27 r27 => ?_)
    obtain ⟨ow27, hs27, ob27, hH27⟩ := r27
    have hzs27 : H27.size = H18.size + 1 := by rw [hH27]; simp
    have dj24 : Dj (sb + 1) (H18.size + 1) := Dj.new hv.lt
    have df25 := (DF.new (bf_hsr.mono hm0.size) : DF _ (H18.size + 1))
    have dj26 : Dj (H0.size + 1) (H18.size + 1) := Dj.new va.lt
    have dj27 : Dj (H4.size + 1) (H18.size + 1) := Dj.new vb.lt
    have dj28 : Dj (H5.size + 1) (H18.size + 1) := Dj.new ow16.le
    have dj29 : Dj (H16.size + 1) (H18.size + 1) := Dj.new ow17.le
    have df30 := (DF.new (bf_hc.mono (by omega)) : DF _ (H18.size + 1))
    have nx31 : Nx 0 H0.size (H18.size + 1) := Nx.new hm0.size
    replace hv := hv.nw hs27
    replace hsr := hsr.nw hs27
    replace va := va.nw hs27
    replace vb := vb.nw hs27
    replace ow16 := ow16.nw hs27
    replace ow17 := ow17.nw hs27
    replace hc := hc.nw hs27
    replace hm0 := hm0.trN hs27
    have hz6 := hs27.size
    have hq27 := hqs.tr hs27
    refine ⟨.inr hq27, LH.narrow (SH2 := fun Hq => Nw H27 Hq) (fun Hq hq => hq27.tr hq) ?_⟩
    have hqn27 := Nw.refl H27
    refine LH.one (i := 3) (by kernel_rfl) ?_
    -- call (selvage/graph.commits).above
    refine LO.call rfl rfl Try.call28 rfl (Wd.u rfl) rfl rfl (above_ct _ _ _ _ _ [b] w0 _ hc (bf_hc.mono (by omega)) hco ow27.rd.any (fun k hk => hstK k (by simp at hk; simp [hk])) (by simp)) (fun v28 H28 r28 => ?_)
    obtain ⟨ab, mm, rfl, ha, hkab, hU, hs28⟩ := r28
    have dj32 : Dj (sb + 1) (ab + 1) := Dj.app (Dj.z) hv.lt hkab
    have df33 := DF.app (DF.z) (bf_hsr.mono hm0.size) hkab
    have dj34 : Dj (H0.size + 1) (ab + 1) := Dj.app (Dj.z) va.lt hkab
    have dj35 : Dj (H4.size + 1) (ab + 1) := Dj.app (Dj.z) vb.lt hkab
    have dj36 : Dj (H5.size + 1) (ab + 1) := Dj.app (Dj.z) ow16.le hkab
    have dj37 : Dj (H16.size + 1) (ab + 1) := Dj.app (Dj.z) ow17.le hkab
    have df38 := DF.app (DF.z) (bf_hc.mono (by omega)) hkab
    have dj39 : Dj (H18.size + 1) (ab + 1) := Dj.app (Dj.z) ow27.le hkab
    have nx40 : Nx 0 H0.size (ab + 1) := Nx.tr (Nx.refl 0 _) hkab hm0.size
    replace hv := hv.nw hs28
    replace hsr := hsr.nw hs28
    replace va := va.nw hs28
    replace vb := vb.nw hs28
    replace ow16 := ow16.nw hs28
    replace ow17 := ow17.nw hs28
    replace hc := hc.nw hs28
    replace ow27 := ow27.nw hs28
    replace hm0 := hm0.trN hs28
    have hz7 := hs28.size
    have hle_ha := ha.le
    have hq28 := hqn27.tr hs28
    refine ⟨.inr hq28, LH.narrow (SH2 := fun Hq => Nw H28 Hq) (fun Hq hq => hq28.tr hq) ?_⟩
    have hqn28 := Nw.refl H28
    refine LH.take 5 (by kernel_rfl) rfl (by kernel_rfl) (by kernel_rfl) (by kernel_rfl) (fun Hq hq => Y.lookupOkA (ha.nw hq).mo keyId rfl Try.runUnderlying72 Try.zeroValue3 rfl rfl) (Wd.u rfl) rfl rfl hqn28 ?_
    refine LH.take 6 (by kernel_rfl) rfl (by kernel_rfl) (by kernel_rfl) (by kernel_rfl) (fun Hq hq => Y.move rfl rfl) (Wd.u rfl) rfl rfl hqn28 ?_
    refine LH.take 7 (by kernel_rfl) rfl (by kernel_rfl) (by kernel_rfl) (by kernel_rfl) (fun Hq hq => Y.extract rfl rfl rfl) (Wd.u rfl) rfl rfl hqn28 ?_
    refine LH.take 8 (by kernel_rfl) rfl (by kernel_rfl) (by kernel_rfl) (by kernel_rfl) (fun Hq hq => Y.extract rfl rfl rfl) (Wd.u rfl) rfl rfl hqn28 ?_
    refine LH.take 9 (by kernel_rfl) rfl (by kernel_rfl) (by kernel_rfl) (by kernel_rfl) (fun Hq hq => Y.assign rfl rfl) (Wd.u rfl) rfl rfl hqn28 ?_
    refine LH.take 10 (by kernel_rfl) rfl (by kernel_rfl) (by kernel_rfl) (by kernel_rfl) (fun Hq hq => Y.assign rfl rfl) (Wd.u rfl) rfl rfl hqn28 ?_
    refine LH.done (by kernel_rfl) ?_
    have hqe := hqn28
    refine hK6 _ _ ?_
    refine CW.seq (fun K7 hK7 hE7 => ?_)
    refine CW.region ?_
    refine LR.v (Y.move rfl rfl) (Wd.u rfl) rfl rfl ?_
    refine LR.v (Y.assign rfl rfl) (Wd.u rfl) rfl rfl ?_
    refine LR.v (Y.assign rfl rfl) (Wd.u rfl) rfl rfl ?_
    refine LR.nil ?_
    refine hK7 _ _ ?_
    refine CW.ret (hret .ret (.inr rfl) _ _ _ (res2 rfl rfl rfl) ?_)
    exact ⟨_, 0, q, rfl, hv, ⟨⟨_, hA⟩, fun _ => by rw [isSome_iff_key, hU]; exact ⟨fun ⟨i, hi, hu⟩ => by rw [List.mem_singleton.1 hi] at hu; exact (up_iff hA (hstK b (by simp))).1 hu, fun hu => ⟨b, by simp, (up_iff hA (hstK b (by simp))).2 hu⟩⟩, fun h => absurd rfl h⟩, by omega, hm0⟩

end Go.Proofs.Ytepdhokpfecdnaa.GraI
/-
  How long the longest way up is; the commits between some and others.
-/
namespace Go.Proofs.Ytepdhokpfecdnaa.GraJ
open Go.Proofs.Ytepdhokpfecdnaa.E Go.RowKit Go.Proofs.Ytepdhokpfecdnaa.GraA Go.Proofs.Ytepdhokpfecdnaa.GraB Go.Proofs.Ytepdhokpfecdnaa.GraC Go.Proofs.Ytepdhokpfecdnaa.GraD Go.Proofs.Ytepdhokpfecdnaa.GraE Go.Proofs.Ytepdhokpfecdnaa.GraF Go.Proofs.Ytepdhokpfecdnaa.GraG Go.Proofs.Ytepdhokpfecdnaa.GraH Go.Proofs.Ytepdhokpfecdnaa.GraI
set_option maxRecDepth 20000
set_option linter.unusedVariables false
set_option linter.unusedSimpArgs false
set_option linter.unusedSectionVars false
set_option maxRecDepth 100000 in
theorem inf28 : Inf Try.prog 28 30 32 32 := ⟨Try.underlying28, _, _, rfl, rfl, rfl, rfl, rfl⟩
set_option maxRecDepth 100000 in
theorem inf92 : Inf Try.prog 92 28 1 24 := ⟨Try.underlying92, _, _, rfl, rfl, rfl, rfl, rfl⟩

def gmax (g : Ide → Nat) (ps : List Ide) : Nat := ps.foldl (fun a p => max a (g p + 1)) 0
theorem gmax_snoc (g : Ide → Nat) (ps : List Ide) (p : Ide) : gmax g (ps ++ [p]) = max (gmax g ps) (g p + 1) := by simp [gmax, List.foldl_append]
theorem foldl_ge (g : Ide → Nat) : ∀ (ps : List Ide) (a : Nat), a ≤ ps.foldl (fun a p => max a (g p + 1)) a
  | [], a => Nat.le_refl _
  | p :: ps, a => Nat.le_trans (by omega) (foldl_ge g ps (max a (g p + 1)))
theorem foldl_gt (g : Ide → Nat) : ∀ (ps : List Ide) (a : Nat), ∀ p ∈ ps, g p < ps.foldl (fun a p => max a (g p + 1)) a
  | [], a, p, hp => by cases hp
  | x :: ps, a, p, hp => by
    rcases List.mem_cons.1 hp with rfl | hp
    · have := foldl_ge g ps (max a (g p + 1))
      rw [List.foldl_cons]; omega
    · exact foldl_gt g ps _ p hp
theorem gmax_gt {g : Ide → Nat} {ps : List Ide} {p : Ide} (h : p ∈ ps) : g p < gmax g ps := foldl_gt g ps 0 p h
theorem foldl_le (g : Ide → Nat) (b : Nat) : ∀ (ps : List Ide) (a : Nat), a ≤ b → (∀ p ∈ ps, g p + 1 ≤ b) → ps.foldl (fun a p => max a (g p + 1)) a ≤ b
  | [], a, h, _ => h
  | x :: ps, a, h, h2 => by
    rw [List.foldl_cons]
    exact foldl_le g b ps _ (by have := h2 x List.mem_cons_self; omega) (fun p hp => h2 p (List.mem_cons_of_mem _ hp))
theorem gmax_le {g : Ide → Nat} {ps : List Ide} {b : Nat} (h : ∀ p ∈ ps, g p + 1 ≤ b) : gmax g ps ≤ b := foldl_le g b ps 0 (by omega) h
theorem gmax_take_le {g : Ide → Nat} {ps : List Ide} {q : Nat} : gmax g (ps.take q) ≤ gmax g ps := gmax_le (fun p hp => gmax_gt (List.mem_of_mem_take hp))
/-- what Gen tells -/
def GnR (pa : Ide → Option (List Ide)) (g : Ide → Nat) (a : Ide) (r e n q : Nat) : Prop := (∃ K, AllR pa [a] K e ∧ (e = 0 → q = n + K.length)) ∧ (e = 0 → r = g a) ∧ (e ≠ 0 → r = 0)
/-- the commits between some and others, in their order -/
def Ord (pa : Ide → Option (List Ide)) (fr un out : List Ide) : Prop := ∃ K S, AllR pa (fr ++ un) K 0 ∧ Topo (cpa pa K) S out ∧ ∀ k, k ∈ S ↔ (∃ i ∈ fr, UpO pa i k) ∧ ¬ ∃ i ∈ un, UpO pa i k
theorem up_list {pa : Ide → Option (List Ide)} {st K l : List Ide} (h : AllR pa st K 0) (hl : ∀ i ∈ l, i ∈ K) (k : Ide) : (∃ i ∈ l, Up (cpa pa K) i k) ↔ ∃ i ∈ l, UpO pa i k :=
  ⟨fun ⟨i, hi, hu⟩ => ⟨i, hi, (up_iff h (hl i hi)).1 hu⟩, fun ⟨i, hi, hu⟩ => ⟨i, hi, (up_iff h (hl i hi)).2 hu⟩⟩
theorem up_in {pa : Ide → Option (List Ide)} {st K : List Ide} (h : AllR pa st K 0) {i k : Ide} (hi : i ∈ K) (hu : UpO pa i k) : k ∈ K := by
  obtain ⟨_, h1, _⟩ := all0 h
  induction hu with
  | refl => exact hi
  | @step j p ps _ hq hp ih =>
    obtain ⟨qs, e1, e2⟩ := h1 j ih
    rw [e1] at hq; cases hq; exact e2 p hp
theorem cpa_in {pa : Ide → Option (List Ide)} {st K : List Ide} (h : AllR pa st K 0) {k : Ide} (hk : k ∈ K) : pa k = some (cpa pa K k) := by
  obtain ⟨_, h1, _⟩ := all0 h
  obtain ⟨ps, e1, _⟩ := h1 k hk
  unfold cpa; rw [if_pos hk, e1]; rfl

set_option maxHeartbeats 4000000 in
theorem gen_ct (So : Sou) (sb n : Nat) (F : Nat → Prop) (a : Ide) (g : Ide → Nat) (w0 : World) (H0 : Heap)
    (hv : Var So.e H0 sb (So.cs n)) (hsr : SRd F H0 So) (bf_hsr : BF F H0.size) (dfs : DF F (sb + 1)) (hok : So.ok) (hn : n ≤ 800000000) (hg : ∀ k ps, So.pa k = some ps → g k = gmax g ps) (hgb : ∀ k, g k ≤ 1000000) :
    Ct Try.prog w0 17 #[So.v sb, vA a] H0 (fun r H2 => ∃ rr : Nat, ∃ e : Nat, ∃ q : Nat, r = .tuple #[.int .i64 (rr : Int), eV e] ∧ (Var So.e H2 sb (So.cs q)) ∧ (GnR So.pa g a rr e n q) ∧ (q ≤ n + 5001) ∧ Mo (Ms [(sb + 1)]) H0 H2) := by
  refine Ct.enter (args := [So.v sb, vA a]) Try.func17 rfl rfl rfl ?_
  intro Q0 hret
  have hm0 : Mo (Ms [(sb + 1)]) H0 H0 := Mo.refl _ _
  have nx_hm0_hv := Nx.refl (sb + 1) H0.size
  have hlt_hv := hv.lt
  refine CW.seq (fun K1 hK1 hE1 => ?_)
  refine CW.region ?_
  refine LR.z (Z.boxv rfl rfl) (Wd.u rfl) rfl rfl (fun v3 H3 r3 => ?_)
  obtain ⟨rfl, va, hs3, ob3, hH3⟩ := r3
  have hzs3 : H3.size = H0.size + 1 := by rw [hH3]; simp
  have dj1 : Dj (sb + 1) (H0.size + 1) := Dj.new hv.lt
  have df2 := (DF.new (bf_hsr.mono hm0.size) : DF _ (H0.size + 1))
  have nx3 : Nx 0 H0.size (H0.size + 1) := Nx.new hm0.size
  replace hv := hv.nw hs3
  replace hsr := hsr.nw hs3
  replace hm0 := hm0.trN hs3
  have hz1 := hs3.size
  replace va : Var 30 H3 H0.size (fA a) := va
  refine LR.v (Y.assign rfl rfl) (Wd.u rfl) rfl rfl ?_
  refine LR.v (Y.assign rfl rfl) (Wd.u rfl) rfl rfl ?_
  refine LR.nil ?_
  refine hK1 _ _ ?_
  refine CW.seq (fun K2 hK2 hE2 => ?_)
  refine CW.region ?_
  refine LR.v (Y.move rfl rfl) (Wd.u rfl) rfl rfl ?_
  refine LR.v (Y.loadN va.pt rfl Try.isAgg30 Try.sizeOf30 (fA_len _) rfl) (Wd.u rfl) rfl rfl ?_
  refine LR.z (Z.litw _ ([a]) rfl inf28 rfl rfl rfl (by decide) (by decide) fA_len fA_one (rfl)) (Wd.u rfl) rfl rfl (fun v16 H16 r16 => ?_)
  obtain ⟨ow16, hs16, ob16, hH16⟩ := r16
  have hzs16 : H16.size = H3.size + 1 := by rw [hH16]; simp
  have dj4 : Dj (sb + 1) (H3.size + 1) := Dj.new hv.lt
  have df5 := (DF.new (bf_hsr.mono hm0.size) : DF _ (H3.size + 1))
  have dj6 : Dj (H0.size + 1) (H3.size + 1) := Dj.new va.lt
  have nx7 : Nx 0 H0.size (H3.size + 1) := Nx.new hm0.size
  replace hv := hv.nw hs16
  replace hsr := hsr.nw hs16
  replace va := va.nw hs16
  replace hm0 := hm0.trN hs16
  have hz2 := hs16.size
  obtain ⟨s16, rfl⟩ : ∃ s : SV, v16 = s.v := ⟨toSV v16, ow16.sv.symm⟩
  refine LR.z (Z.litw _ ([(s16, [a])]) rfl inf92 rfl rfl rfl (by decide) (by decide) fLs_len fLs_one (rfl)) (Wd.u rfl) rfl rfl (fun v17 H17 r17 => ?_)
  obtain ⟨ow17, hs17, ob17, hH17⟩ := r17
  have hzs17 : H17.size = H16.size + 1 := by rw [hH17]; simp
  have dj8 : Dj (sb + 1) (H16.size + 1) := Dj.new hv.lt
  have df9 := (DF.new (bf_hsr.mono hm0.size) : DF _ (H16.size + 1))
  have dj10 : Dj (H0.size + 1) (H16.size + 1) := Dj.new va.lt
  have dj11 : Dj (H3.size + 1) (H16.size + 1) := Dj.new ow16.le
  have nx12 : Nx 0 H0.size (H16.size + 1) := Nx.new hm0.size
  replace hv := hv.nw hs17
  replace hsr := hsr.nw hs17
  replace va := va.nw hs17
  replace ow16 := ow16.nw hs17
  replace hm0 := hm0.trN hs17
  have hz3 := hs17.size
  -- call selvage/graph.all
  refine LR.call rfl Try.call27 rfl (Wd.u rfl) rfl rfl (all_ct So sb n _ _ [(s16, [a])] w0 _ hv hsr (bf_hsr.mono hm0.size) dfs hok (by omega) (Ow.ne ow17 (dj8)) (by simp) (fun x hx => by rw [List.mem_singleton.1 hx]; exact Ow.ne ow16 (dj4)) (by simp)) (fun v18 H18 r18 => ?_)
  obtain ⟨vc, m, e, q, rfl, hc, hv, hA, hq, hs18⟩ := r18
  replace hsr := hsr.upL hs18 (DFL.cons dfs DFL.nil)
  replace va := va.upL hs18 (DL.cons dj1.symm DL.nil)
  replace ow16 := ow16.upL hs18 (DL.cons dj4.symm DL.nil)
  replace ow17 := ow17.upL hs18 (DL.cons dj8.symm DL.nil)
  replace hm0 := hm0.trL hs18 (MIL.cons (MI.app (MI.root (by simp)) (nx_hm0_hv) (Nat.le_refl _)) MIL.nil)
  have hz4 := hs18.size
  replace hc := hc.bnd
  have bf_hc := hc.bf
  have df13 : DF (fun b => H17.size ≤ b ∧ b < H18.size) (sb + 1) := DF.above (fun b h => h.1) (by first | exact hle_hv | exact hlt_hv | omega)
  have df14 : DF (fun b => H17.size ≤ b ∧ b < H18.size) (H0.size + 1) := DF.above (fun b h => h.1) (by first | exact hle_va | exact hlt_va | omega)
  have df15 : DF (fun b => H17.size ≤ b ∧ b < H18.size) (H3.size + 1) := DF.above (fun b h => h.1) (by first | exact hle_ow16 | exact hlt_ow16 | omega)
  have df16 : DF (fun b => H17.size ≤ b ∧ b < H18.size) (H16.size + 1) := DF.above (fun b h => h.1) (by first | exact hle_ow17 | exact hlt_ow17 | omega)
  refine LR.v (Y.move rfl rfl) (Wd.u rfl) rfl rfl ?_
  refine LR.v (Y.extract rfl rfl rfl) (Wd.u rfl) rfl rfl ?_
  refine LR.v (Y.extract rfl rfl rfl) (Wd.u rfl) rfl rfl ?_
  refine LR.v (Y.assign rfl rfl) (Wd.u rfl) rfl rfl ?_
  refine LR.v (Y.assign rfl rfl) (Wd.u rfl) rfl rfl ?_
  refine LR.nil ?_
  refine hK2 _ _ ?_
  refine CW.seq (fun K3 hK3 hE3 => ?_)
  refine CW.seq (fun K4 hK4 hE4 => ?_)
  refine CW.region ?_
  refine LR.v (Y.move rfl rfl) (Wd.u rfl) rfl rfl ?_
  refine LR.v (Y.ene rfl Try.underlying33 rfl) (Wd.u rfl) rfl rfl ?_
  refine LR.nil ?_
  refine hK4 _ _ ?_
  refine CW.condp rfl (fun c22 => ?_) (fun c22 => ?_)
  ·
    refine CW.seq (fun K5 hK5 hE5 => ?_)
    refine CW.region ?_
    refine LR.v (Y.move rfl rfl) (Wd.u rfl) rfl rfl ?_
    refine LR.v (Y.assign rfl rfl) (Wd.u rfl) rfl rfl ?_
    refine LR.v (Y.assign rfl rfl) (Wd.u rfl) rfl rfl ?_
    refine LR.nil ?_
    refine hK5 _ _ ?_
    refine CW.ret (hE3 .ret nofun _ _ (hret .ret (.inr rfl) _ _ _ (res2 rfl rfl rfl) ?_))
    exact ⟨0, e, q, rfl, hv, ⟨⟨_, hA, fun h => absurd h c22⟩, fun h => absurd h c22, fun _ => rfl⟩, by omega, hm0⟩
  ·
    obtain rfl : e = 0 := by omega
    replace hA : AllR So.pa [a] (m.map (·.1)) 0 := hA
    replace hc := hc.get rfl
    have hco := cok_of hok hA
    obtain ⟨_, _, hstK, _, _⟩ := all0 hA
    have hml := hco.le
    refine CW.skip ?_
    refine hK3 _ _ ?_
    refine CW.seq (fun K6 hK6 hE6 => ?_)
    refine CW.region ?_
    refine LR.z (Z.makeMp vA (Value.int .i64) rfl) (Wd.u rfl) rfl rfl (fun v24 H24 r24 => ?_)
    obtain ⟨rfl, hgm, hs24, ob24, hH24⟩ := r24
    have hzs24 : H24.size = H18.size + 1 := by rw [hH24]; simp
    have dj17 : Dj (sb + 1) (H18.size + 1) := Dj.new hv.lt
    have df18 := (DF.new (bf_hsr.mono hm0.size) : DF _ (H18.size + 1))
    have dj19 : Dj (H0.size + 1) (H18.size + 1) := Dj.new va.lt
    have dj20 : Dj (H3.size + 1) (H18.size + 1) := Dj.new ow16.le
    have dj21 : Dj (H16.size + 1) (H18.size + 1) := Dj.new ow17.le
    have df22 := (DF.new (bf_hc.mono (by omega)) : DF _ (H18.size + 1))
    have nx23 : Nx 0 H0.size (H18.size + 1) := Nx.new hm0.size
    replace hv := hv.nw hs24
    replace hsr := hsr.nw hs24
    replace va := va.nw hs24
    replace ow16 := ow16.nw hs24
    replace ow17 := ow17.nw hs24
    replace hc := hc.nw hs24
    replace hm0 := hm0.trN hs24
    have hz5 := hs24.size
    have hlt_hgm := hgm.lt
    refine LR.v (Y.assign rfl rfl) (Wd.u rfl) rfl rfl ?_
    refine LR.nil ?_
    refine hK6 _ _ ?_
    refine CW.seq (fun K7 hK7 hE7 => ?_)
    refine CW.seq (fun K8 hK8 hE8 => ?_)
    refine CW.region ?_
    refine LR.v (Y.move rfl rfl) (Wd.u rfl) rfl rfl ?_
    refine LR.v (Y.move rfl rfl) (Wd.u rfl) rfl rfl ?_
    refine LR.v (Y.loadN va.pt rfl Try.isAgg30 Try.sizeOf30 (fA_len _) rfl) (Wd.u rfl) rfl rfl ?_
    refine LR.z (Z.litw _ ([a]) rfl inf28 rfl rfl rfl (by decide) (by decide) fA_len fA_one (rfl)) (Wd.u rfl) rfl rfl (fun v28 H28 r28 => ?_)
    obtain ⟨ow28, hs28, ob28, hH28⟩ := r28
    have hzs28 : H28.size = H24.size + 1 := by rw [hH28]; simp
    have dj24 : Dj (sb + 1) (H24.size + 1) := Dj.new hv.lt
    have df25 := (DF.new (bf_hsr.mono hm0.size) : DF _ (H24.size + 1))
    have dj26 : Dj (H0.size + 1) (H24.size + 1) := Dj.new va.lt
    have dj27 : Dj (H3.size + 1) (H24.size + 1) := Dj.new ow16.le
    have dj28 : Dj (H16.size + 1) (H24.size + 1) := Dj.new ow17.le
    have df29 := (DF.new (bf_hc.mono (by omega)) : DF _ (H24.size + 1))
    have dj30 : Dj (H18.size + 1) (H24.size + 1) := Dj.new hgm.lt
    have nx31 : Nx 0 H0.size (H24.size + 1) := Nx.new hm0.size
    replace hv := hv.nw hs28
    replace hsr := hsr.nw hs28
    replace va := va.nw hs28
    replace ow16 := ow16.nw hs28
    replace ow17 := ow17.nw hs28
    replace hc := hc.nw hs28
    replace hgm := hgm.nw hs28
    replace hm0 := hm0.trN hs28
    have hz6 := hs28.size
    -- call (selvage/graph.commits).above
    refine LR.call rfl Try.call28 rfl (Wd.u rfl) rfl rfl (above_ct _ _ _ _ _ [a] w0 _ hc (bf_hc.mono (by omega)) hco ow28.rd.any (fun k hk => hstK k (by simp at hk; simp [hk])) (by simp)) (fun v29 H29 r29 => ?_)
    obtain ⟨ab, mm, rfl, ha, hkab, hU, hs29⟩ := r29
    have dj32 : Dj (sb + 1) (ab + 1) := Dj.app (Dj.z) hv.lt hkab
    have df33 := DF.app (DF.z) (bf_hsr.mono hm0.size) hkab
    have dj34 : Dj (H0.size + 1) (ab + 1) := Dj.app (Dj.z) va.lt hkab
    have dj35 : Dj (H3.size + 1) (ab + 1) := Dj.app (Dj.z) ow16.le hkab
    have dj36 : Dj (H16.size + 1) (ab + 1) := Dj.app (Dj.z) ow17.le hkab
    have df37 := DF.app (DF.z) (bf_hc.mono (by omega)) hkab
    have dj38 : Dj (H18.size + 1) (ab + 1) := Dj.app (Dj.z) hgm.lt hkab
    have dj39 : Dj (H24.size + 1) (ab + 1) := Dj.app (Dj.z) ow28.le hkab
    have nx40 : Nx 0 H0.size (ab + 1) := Nx.tr (Nx.refl 0 _) hkab hm0.size
    replace hv := hv.nw hs29
    replace hsr := hsr.nw hs29
    replace va := va.nw hs29
    replace ow16 := ow16.nw hs29
    replace ow17 := ow17.nw hs29
    replace hc := hc.nw hs29
    replace hgm := hgm.nw hs29
    replace ow28 := ow28.nw hs29
    replace hm0 := hm0.trN hs29
    have hz7 := hs29.size
    have hle_ha := ha.le
    have hsK : ∀ k ∈ mm.map (·.1), k ∈ m.map (·.1) := fun k hk => by
      obtain ⟨i, hi, hu⟩ := (hU k).1 hk
      rw [List.mem_singleton.1 hi] at hu
      exact up_in hA (hstK a (by simp)) ((up_iff hA (hstK a (by simp))).1 hu)
    have hmm5 := nodup_le ha.mo.nodup hsK
    rw [List.length_map, List.length_map] at hmm5
    -- call (selvage/graph.commits).order
    refine LR.call rfl Try.call29 rfl (Wd.u rfl) rfl rfl (order_ct _ _ _ _ ab mm g w0 _ hc (bf_hc.mono (by omega)) hco ha (by omega) (cpa_ac (fun k ps hps p hp => by rw [hg k ps hps]; exact gmax_gt hp))) (fun v30 H30 r30 => ?_)
    obtain ⟨s30, k30, out, rfl, oo, hk30, hT, hs30⟩ := r30
    have dj41 : Dj (sb + 1) k30 := Dj.app (Dj.z) hv.lt hk30
    have df42 := DF.app (DF.z) (bf_hsr.mono hm0.size) hk30
    have dj43 : Dj (H0.size + 1) k30 := Dj.app (Dj.z) va.lt hk30
    have dj44 : Dj (H3.size + 1) k30 := Dj.app (Dj.z) ow16.le hk30
    have dj45 : Dj (H16.size + 1) k30 := Dj.app (Dj.z) ow17.le hk30
    have df46 := DF.app (DF.z) (bf_hc.mono (by omega)) hk30
    have dj47 : Dj (H18.size + 1) k30 := Dj.app (Dj.z) hgm.lt hk30
    have dj48 : Dj (H24.size + 1) k30 := Dj.app (Dj.z) ow28.le hk30
    have dj49 : Dj (ab + 1) k30 := Dj.app (Dj.z) ha.le hk30
    have nx50 : Nx 0 H0.size k30 := Nx.tr (Nx.refl 0 _) hk30 hm0.size
    replace hv := hv.nw hs30
    replace hsr := hsr.nw hs30
    replace va := va.nw hs30
    replace ow16 := ow16.nw hs30
    replace ow17 := ow17.nw hs30
    replace hc := hc.nw hs30
    replace hgm := hgm.nw hs30
    replace ow28 := ow28.nw hs30
    replace ha := ha.nw hs30
    replace hm0 := hm0.trN hs30
    have hz8 := hs30.size
    have hle_oo := oo.le
    have hol := nodup_le hT.dnd hT.dsub
    rw [List.length_map] at hol
    refine LR.v (Y.len oo.rd rfl Try.runUnderlying28 rfl) (Wd.u rfl) rfl rfl ?_
    refine LR.v (Y.move rfl rfl) (Wd.u rfl) rfl rfl ?_
    refine LR.nil ?_
    refine hK8 _ _ ?_
    refine CW.block (fun K9 hK9 hX9 hE9 => ?_)
    refine CW.loop (fun (s_ : (Nat) × (List (Ide × Int))) => match s_ with | (j, gm) => [(3, .pointer (some ⟨H0.size, 0, none⟩)), (6, vc), (8, .map (some H18.size)), (30, s30.v), (31, .int .i64 (out.length : Int)), (32, .int .i64 (j : Int))])
      (fun (s_ : (Nat) × (List (Ide × Int))) (H : Heap) => match s_ with | (j, gm) => (Mp H vA (Value.int .i64) H18.size gm) ∧ (j ≤ out.length) ∧ (∀ k, (mget gm k).getD 0 = if k ∈ out.take j then (g k : Int) else 0) ∧ Mo (Ms [(H18.size + 1)]) H30 H)
      (fun (s_ : (Nat) × (List (Ide × Int))) => match s_ with | (j, gm) => out.length - j) (0, []) ⟨rfl, rfl, rfl, rfl, rfl, rfl, trivial⟩ ?_ ?_
    ·
      exact ⟨hgm, (by omega), fun k => by simp [mget], Mo.refl _ _⟩
    rintro ⟨j, gm⟩ HL1 hI1 K10 hN10 hE10
    obtain ⟨hgm, hj, hG, hlm1⟩ := hI1
    replace hv := hv.upL hlm1 (DL.cons dj17 DL.nil)
    replace hsr := hsr.upL hlm1 (DFL.cons df18 DFL.nil)
    replace va := va.upL hlm1 (DL.cons dj19 DL.nil)
    replace ow16 := ow16.upL hlm1 (DL.cons dj20 DL.nil)
    replace ow17 := ow17.upL hlm1 (DL.cons dj21 DL.nil)
    replace hc := hc.upL hlm1 (DFL.cons df22 DFL.nil)
    replace ha := ha.upL hlm1 (DL.cons dj38.symm DL.nil)
    replace oo := oo.upL hlm1 (DL.cons dj47.symm DL.nil)
    replace hm0 := hm0.trL hlm1 (MIL.cons (MI.app MI.z (nx23) (Nat.le_refl _)) MIL.nil)
    have hz9 := hlm1.size
    have nx_hlm1_hgm := Nx.refl (H18.size + 1) H30.size
    refine CW.seq (fun K11 hK11 hE11 => ?_)
    refine CW.region ?_
    refine LR.v (Y.lss rfl rfl rfl) (Wd.u rfl) rfl rfl ?_
    refine LR.nil ?_
    refine hK11 _ _ ?_
    refine CW.seq (fun K12 hK12 hE12 => ?_)
    refine CW.condp rfl (fun c33 => ?_) (fun c33 => ?_)
    ·
      have hjl : j < out.length := by omega
      obtain ⟨x, hx⟩ : ∃ x, x = out[j] := ⟨_, rfl⟩
      have hxm : x ∈ mm.map (·.1) := hT.dsub x (by rw [hx]; exact List.getElem_mem hjl)
      have hxK := hsK x hxm
      have hgx := hg x _ (cpa_in hA hxK)
      have hxn : x ∉ out.take j := fun h9 => by
        obtain ⟨i9, hi9, he9⟩ := List.getElem_of_mem h9
        rw [List.getElem_take, hx] at he9
        rw [List.length_take] at hi9
        have := (List.getElem_inj hT.dnd).1 he9
        omega
      have hpl := hco.pl x
      refine CW.skip ?_
      refine hK12 _ _ ?_
      refine CW.seq (fun K13 hK13 hE13 => ?_)
      refine CW.block (fun K14 hK14 hX14 hE14 => ?_)
      refine CW.seq (fun K15 hK15 hE15 => ?_)
      refine CW.region ?_
      refine LR.v (Y.owAddr oo (j) rfl Try.runUnderlying28 Try.sizeOf30 rfl rfl (by first | rfl | omega) (by omega)) (Wd.u rfl) rfl rfl ?_
      refine LR.v (Y.cast (v2 := vA x) (Y.loadN (oo.pt (j := j) (by omega)) rfl Try.isAgg30 Try.sizeOf30 (fA_len _) rfl) (by rw [hx]; rfl)) (Wd.u rfl) rfl rfl ?_
      refine LR.z (Z.allocv rfl Try.zeroValue30) (Wd.u rfl) rfl rfl (fun v10 H10 r10 => ?_)
      obtain ⟨rfl, vi, hs10, ob10, hH10⟩ := r10
      have hzs10 : H10.size = HL1.size + 1 := by rw [hH10]; simp
      have dj51 : Dj (sb + 1) (HL1.size + 1) := Dj.new hv.lt
      have df52 := (DF.new (bf_hsr.mono hm0.size) : DF _ (HL1.size + 1))
      have dj53 : Dj (H0.size + 1) (HL1.size + 1) := Dj.new va.lt
      have dj54 : Dj (H3.size + 1) (HL1.size + 1) := Dj.new ow16.le
      have dj55 : Dj (H16.size + 1) (HL1.size + 1) := Dj.new ow17.le
      have df56 := (DF.new (bf_hc.mono (by omega)) : DF _ (HL1.size + 1))
      have dj57 : Dj (H18.size + 1) (HL1.size + 1) := Dj.new hgm.lt
      have dj58 : Dj (ab + 1) (HL1.size + 1) := Dj.new ha.le
      have dj59 : Dj k30 (HL1.size + 1) := Dj.new oo.le
      have nx60 : Nx 0 H0.size (HL1.size + 1) := Nx.new hm0.size
      have nx61 : Nx 0 H30.size (HL1.size + 1) := Nx.new hlm1.size
      replace hv := hv.nw hs10
      replace hsr := hsr.nw hs10
      replace va := va.nw hs10
      replace ow16 := ow16.nw hs10
      replace ow17 := ow17.nw hs10
      replace hc := hc.nw hs10
      replace hgm := hgm.nw hs10
      replace ha := ha.nw hs10
      replace oo := oo.nw hs10
      replace hm0 := hm0.trN hs10
      replace hlm1 := hlm1.trN hs10
      have hz10 := hs10.size
      replace vi : Var 30 H10 HL1.size (fA Zid) := vi
      refine LR.s (S.var vi (_) (fA (x)) rfl rfl rfl rfl (fA_one _) Try.sizeOf30 (fA_len _) (by first | decide | simp [fA_len]) ((splice_all2 (by first | exact (fA_len _).symm | rfl | exact (fA_len _).trans (fA_len _).symm)))) (Wd.u rfl) rfl (fun H7_3 r7_3 => ?_)
      obtain ⟨vi, hs7_3⟩ := r7_3
      replace hs7_3 := hs7_3.md1
      replace hv := hv.upL hs7_3 (DL.cons dj51 DL.nil)
      replace hsr := hsr.upL hs7_3 (DFL.cons df52 DFL.nil)
      replace va := va.upL hs7_3 (DL.cons dj53 DL.nil)
      replace ow16 := ow16.upL hs7_3 (DL.cons dj54 DL.nil)
      replace ow17 := ow17.upL hs7_3 (DL.cons dj55 DL.nil)
      replace hc := hc.upL hs7_3 (DFL.cons df56 DFL.nil)
      replace hgm := hgm.upL hs7_3 (DL.cons dj57 DL.nil)
      replace ha := ha.upL hs7_3 (DL.cons dj58 DL.nil)
      replace oo := oo.upL hs7_3 (DL.cons dj59 DL.nil)
      replace hm0 := hm0.trL hs7_3 (MIL.cons (MI.app MI.z (nx60) (Nat.le_refl _)) MIL.nil)
      replace hlm1 := hlm1.trL hs7_3 (MIL.cons (MI.app MI.z (nx61) (Nat.le_refl _)) MIL.nil)
      have hz11 := hs7_3.size
      refine LR.nil ?_
      refine hK15 _ _ ?_
      refine CW.seq (fun K16 hK16 hE16 => ?_)
      refine CW.region ?_
      refine LR.v (Y.move rfl rfl) (Wd.u rfl) rfl rfl ?_
      refine LR.v (Y.loadN vi.pt rfl Try.isAgg30 Try.sizeOf30 (fA_len _) rfl) (Wd.u rfl) rfl rfl ?_
      refine LR.v (Y.lookupA hc.mo keyId rfl Try.runUnderlying69 Try.zeroValue28 rfl rfl) (Wd.u rfl) rfl rfl ?_
      refine LR.v (Y.len (hc.row x) rfl Try.runUnderlying28 rfl) (Wd.u rfl) rfl rfl ?_
      refine LR.v (Y.move rfl rfl) (Wd.u rfl) rfl rfl ?_
      refine LR.nil ?_
      refine hK16 _ _ ?_
      refine CW.block (fun K17 hK17 hX17 hE17 => ?_)
      refine CW.loop (fun (s_ : (Nat) × (List (Ide × Int))) => match s_ with | (q2, gm2) => [(3, .pointer (some ⟨H0.size, 0, none⟩)), (6, vc), (8, .map (some H18.size)), (10, .pointer (some ⟨HL1.size, 0, none⟩)), (30, s30.v), (31, .int .i64 (out.length : Int)), (32, .int .i64 (j : Int)), (38, (id ((mget m x).getD nilS) : Value)), (39, .int .i64 ((cpa So.pa (m.map (·.1)) x).length : Int)), (40, .int .i64 (q2 : Int))])
        (fun (s_ : (Nat) × (List (Ide × Int))) (H : Heap) => match s_ with | (q2, gm2) => (Mp H vA (Value.int .i64) H18.size gm2) ∧ (q2 ≤ (cpa So.pa (m.map (·.1)) x).length) ∧ (∀ k, (mget gm2 k).getD 0 = if k ∈ out.take j then (g k : Int) else if k = x then ((gmax g ((cpa So.pa (m.map (·.1)) x).take q2) : Nat) : Int) else 0) ∧ Mo (Ms [(H18.size + 1)]) H7_3 H)
        (fun (s_ : (Nat) × (List (Ide × Int))) => match s_ with | (q2, gm2) => (cpa So.pa (m.map (·.1)) x).length - q2) (0, gm) ⟨rfl, rfl, rfl, rfl, rfl, rfl, rfl, rfl, rfl, rfl, trivial⟩ ?_ ?_
      ·
        exact ⟨hgm, (by omega), fun k => by
            rw [hG k]
            split
            · rfl
            · split <;> rfl, Mo.refl _ _⟩
      rintro ⟨q2, gm2⟩ HL2 hI2 K18 hN18 hE18
      obtain ⟨hgm, hq2, hG2, hlm2⟩ := hI2
      replace hv := hv.upL hlm2 (DL.cons dj17 DL.nil)
      replace hsr := hsr.upL hlm2 (DFL.cons df18 DFL.nil)
      replace va := va.upL hlm2 (DL.cons dj19 DL.nil)
      replace ow16 := ow16.upL hlm2 (DL.cons dj20 DL.nil)
      replace ow17 := ow17.upL hlm2 (DL.cons dj21 DL.nil)
      replace hc := hc.upL hlm2 (DFL.cons df22 DFL.nil)
      replace ha := ha.upL hlm2 (DL.cons dj38.symm DL.nil)
      replace oo := oo.upL hlm2 (DL.cons dj47.symm DL.nil)
      replace vi := vi.upL hlm2 (DL.cons dj57.symm DL.nil)
      replace hm0 := hm0.trL hlm2 (MIL.cons (MI.app MI.z (nx23) (Nat.le_refl _)) MIL.nil)
      replace hlm1 := hlm1.trL hlm2 (MIL.cons (MI.app (MI.root (by simp)) (nx_hlm1_hgm) (Nat.le_refl _)) MIL.nil)
      have hz12 := hlm2.size
      have nx_hlm2_hgm := Nx.refl (H18.size + 1) H7_3.size
      refine CW.seq (fun K19 hK19 hE19 => ?_)
      refine CW.region ?_
      refine LR.v (Y.lss rfl rfl rfl) (Wd.u rfl) rfl rfl ?_
      refine LR.nil ?_
      refine hK19 _ _ ?_
      refine CW.seq (fun K20 hK20 hE20 => ?_)
      refine CW.condp rfl (fun c41 => ?_) (fun c41 => ?_)
      ·
        have hql : q2 < (cpa So.pa (m.map (·.1)) x).length := by omega
        obtain ⟨p, hp⟩ : ∃ p, p = (cpa So.pa (m.map (·.1)) x)[q2] := ⟨_, rfl⟩
        have hpm : p ∈ (cpa So.pa (m.map (·.1)) x) := by rw [hp]; exact List.getElem_mem hql
        have hpt : p ∈ out.take j := hT.par j hjl p (by rw [← hx]; exact hpm) ((hU p).2 (by obtain ⟨i, hi, hu⟩ := (hU x).1 hxm; exact ⟨i, hi, hu.step hpm⟩))
        have hts := List.take_succ_eq_append_getElem hql
        rw [← hp] at hts
        have hgp := hgb p
        have hgxb := hgb x
        have hgt := gmax_take_le (g := g) (ps := (cpa So.pa (m.map (·.1)) x)) (q := q2)
        have hg48 := hG2 x
        rw [if_neg hxn, if_pos rfl] at hg48
        have hg51 := hG2 p
        rw [if_pos hpt] at hg51
        refine CW.skip ?_
        refine hK20 _ _ ?_
        refine CW.seq (fun K21 hK21 hE21 => ?_)
        refine CW.block (fun K22 hK22 hX22 hE22 => ?_)
        refine CW.seq (fun K23 hK23 hE23 => ?_)
        refine CW.region ?_
        refine LR.e (g := fun ad => .pointer (some ad)) (Y.indexAddrF (hc.row x) (q2) rfl Try.runUnderlying28 Try.sizeOf30 rfl rfl (by first | rfl | omega) (by omega)) (Wd.u rfl) rfl rfl (fun ad42 pt42 => ?_)
        have bf_pt42 := bf_hc
        refine LR.v (Y.cast (v2 := vA p) (Y.loadN pt42.pt rfl Try.isAgg30 Try.sizeOf30 (fA_len _) rfl) (by rw [hp]; rfl)) (Wd.u rfl) rfl rfl ?_
        refine LR.z (Z.allocv rfl Try.zeroValue30) (Wd.u rfl) rfl rfl (fun v12 H12 r12 => ?_)
        obtain ⟨rfl, vp, hs12, ob12, hH12⟩ := r12
        have hzs12 : H12.size = HL2.size + 1 := by rw [hH12]; simp
        have dj62 : Dj (sb + 1) (HL2.size + 1) := Dj.new hv.lt
        have df63 := (DF.new (bf_hsr.mono hm0.size) : DF _ (HL2.size + 1))
        have dj64 : Dj (H0.size + 1) (HL2.size + 1) := Dj.new va.lt
        have dj65 : Dj (H3.size + 1) (HL2.size + 1) := Dj.new ow16.le
        have dj66 : Dj (H16.size + 1) (HL2.size + 1) := Dj.new ow17.le
        have df67 := (DF.new (bf_hc.mono (by omega)) : DF _ (HL2.size + 1))
        have dj68 : Dj (H18.size + 1) (HL2.size + 1) := Dj.new hgm.lt
        have dj69 : Dj (ab + 1) (HL2.size + 1) := Dj.new ha.le
        have dj70 : Dj k30 (HL2.size + 1) := Dj.new oo.le
        have dj71 : Dj (HL1.size + 1) (HL2.size + 1) := Dj.new vi.lt
        have df72 := (DF.new (bf_pt42.mono (by omega)) : DF _ (HL2.size + 1))
        have nx73 : Nx 0 H0.size (HL2.size + 1) := Nx.new hm0.size
        have nx74 : Nx 0 H30.size (HL2.size + 1) := Nx.new hlm1.size
        have nx75 : Nx 0 H7_3.size (HL2.size + 1) := Nx.new hlm2.size
        replace hv := hv.nw hs12
        replace hsr := hsr.nw hs12
        replace va := va.nw hs12
        replace ow16 := ow16.nw hs12
        replace ow17 := ow17.nw hs12
        replace hc := hc.nw hs12
        replace hgm := hgm.nw hs12
        replace ha := ha.nw hs12
        replace oo := oo.nw hs12
        replace vi := vi.nw hs12
        replace pt42 := pt42.nw hs12
        replace hm0 := hm0.trN hs12
        replace hlm1 := hlm1.trN hs12
        replace hlm2 := hlm2.trN hs12
        have hz13 := hs12.size
        replace vp : Var 30 H12 HL2.size (fA Zid) := vp
        refine LR.s (S.var vp (_) (fA (p)) rfl rfl rfl rfl (fA_one _) Try.sizeOf30 (fA_len _) (by first | decide | simp [fA_len]) ((splice_all2 (by first | exact (fA_len _).symm | rfl | exact (fA_len _).trans (fA_len _).symm)))) (Wd.u rfl) rfl (fun H10_3 r10_3 => ?_)
        obtain ⟨vp, hs10_3⟩ := r10_3
        replace hs10_3 := hs10_3.md1
        replace hv := hv.upL hs10_3 (DL.cons dj62 DL.nil)
        replace hsr := hsr.upL hs10_3 (DFL.cons df63 DFL.nil)
        replace va := va.upL hs10_3 (DL.cons dj64 DL.nil)
        replace ow16 := ow16.upL hs10_3 (DL.cons dj65 DL.nil)
        replace ow17 := ow17.upL hs10_3 (DL.cons dj66 DL.nil)
        replace hc := hc.upL hs10_3 (DFL.cons df67 DFL.nil)
        replace hgm := hgm.upL hs10_3 (DL.cons dj68 DL.nil)
        replace ha := ha.upL hs10_3 (DL.cons dj69 DL.nil)
        replace oo := oo.upL hs10_3 (DL.cons dj70 DL.nil)
        replace vi := vi.upL hs10_3 (DL.cons dj71 DL.nil)
        replace pt42 := pt42.upL hs10_3 (DFL.cons df72 DFL.nil)
        replace hm0 := hm0.trL hs10_3 (MIL.cons (MI.app MI.z (nx73) (Nat.le_refl _)) MIL.nil)
        replace hlm1 := hlm1.trL hs10_3 (MIL.cons (MI.app MI.z (nx74) (Nat.le_refl _)) MIL.nil)
        replace hlm2 := hlm2.trL hs10_3 (MIL.cons (MI.app MI.z (nx75) (Nat.le_refl _)) MIL.nil)
        have hz14 := hs10_3.size
        refine LR.nil ?_
        refine hK23 _ _ ?_
        refine CW.region_tail 10 rfl (by kernel_rfl) (fun T11 hT11 => ?_)
        refine LR.v (Y.move rfl rfl) (Wd.u rfl) rfl rfl ?_
        refine LR.v (Y.loadN vi.pt rfl Try.isAgg30 Try.sizeOf30 (fA_len _) rfl) (Wd.u rfl) rfl rfl ?_
        refine LR.v (Y.move rfl rfl) (Wd.u rfl) rfl rfl ?_
        refine LR.v (Y.loadN vi.pt rfl Try.isAgg30 Try.sizeOf30 (fA_len _) rfl) (Wd.u rfl) rfl rfl ?_
        refine LR.v (Y.cast (v2 := .int .i64 ((gmax g ((cpa So.pa (m.map (·.1)) x).take q2) : Nat) : Int)) (Y.lookupA hgm.mo keyId rfl Try.runUnderlying72 Try.zeroValue3 rfl rfl) (congrArg (Value.int .i64) hg48)) (Wd.u rfl) rfl rfl ?_
        refine LR.v (Y.move rfl rfl) (Wd.u rfl) rfl rfl ?_
        refine LR.v (Y.loadN vp.pt rfl Try.isAgg30 Try.sizeOf30 (fA_len _) rfl) (Wd.u rfl) rfl rfl ?_
        refine LR.v (Y.cast (v2 := .int .i64 (g p : Int)) (Y.lookupA hgm.mo keyId rfl Try.runUnderlying72 Try.zeroValue3 rfl rfl) (congrArg (Value.int .i64) hg51)) (Wd.u rfl) rfl rfl ?_
        refine LR.v (Y.addi rfl rfl rfl (by omega)) (Wd.u rfl) rfl rfl ?_
        refine LR.v (Y.cast (v2 := .int .i64 ((gmax g ((cpa So.pa (m.map (·.1)) x).take (q2 + 1)) : Nat) : Int)) (Y.maxi rfl rfl rfl) (congrArg (Value.int .i64) (by rw [hts, gmax_snoc]; omega))) (Wd.u rfl) rfl rfl ?_
        refine LR.nil (hT11 _ ?_)
        refine LR.s (S.putA (((gmax g ((cpa So.pa (m.map (·.1)) x).take (q2 + 1)) : Nat) : Int)) hgm keyId rfl Try.runUnderlying72 rfl rfl rfl) (Wd.u rfl) rfl (fun H11_10 r11_10 => ?_)
        obtain ⟨hgm, hs11_10⟩ := r11_10
        replace hs11_10 := hs11_10.md1
        replace hv := hv.upL hs11_10 (DL.cons dj17 DL.nil)
        replace hsr := hsr.upL hs11_10 (DFL.cons df18 DFL.nil)
        replace va := va.upL hs11_10 (DL.cons dj19 DL.nil)
        replace ow16 := ow16.upL hs11_10 (DL.cons dj20 DL.nil)
        replace ow17 := ow17.upL hs11_10 (DL.cons dj21 DL.nil)
        replace hc := hc.upL hs11_10 (DFL.cons df22 DFL.nil)
        replace ha := ha.upL hs11_10 (DL.cons dj38.symm DL.nil)
        replace oo := oo.upL hs11_10 (DL.cons dj47.symm DL.nil)
        replace vi := vi.upL hs11_10 (DL.cons dj57.symm DL.nil)
        replace vp := vp.upL hs11_10 (DL.cons dj68.symm DL.nil)
        replace hm0 := hm0.trL hs11_10 (MIL.cons (MI.app MI.z (nx23) (Nat.le_refl _)) MIL.nil)
        replace hlm1 := hlm1.trL hs11_10 (MIL.cons (MI.app (MI.root (by simp)) (nx_hlm1_hgm) (Nat.le_refl _)) MIL.nil)
        replace hlm2 := hlm2.trL hs11_10 (MIL.cons (MI.app (MI.root (by simp)) (nx_hlm2_hgm) (Nat.le_refl _)) MIL.nil)
        have hz15 := hs11_10.size
        refine LR.nil ?_
        refine hK22 _ _ ?_
        refine hK21 _ _ ?_
        refine CW.region ?_
        refine LR.v (Y.addi rfl rfl rfl (by omega)) (Wd.u rfl) rfl rfl ?_
        refine LR.v (Y.move rfl rfl) (Wd.u rfl) rfl rfl ?_
        refine LR.nil ?_
        refine QN.sub (hN18 (q2 + 1, mput gm2 x ((gmax g ((cpa So.pa (m.map (·.1)) x).take (q2 + 1)) : Nat) : Int)) _ ?_ ?_) ⟨rfl, rfl, rfl, rfl, rfl, (iv (by omega)), (iv (by omega)), rfl, (iv (by omega)), (iv (by omega)), trivial⟩
        · exact ⟨hgm, (by omega), fun k => by
            rw [mget_put]
            by_cases h1 : k = x
            · subst h1; rw [if_pos rfl, if_neg hxn, if_pos rfl]; rfl
            · rw [if_neg h1, hG2 k, if_neg h1, if_neg h1], hlm2⟩
        · first | omega | (simp only; omega) | (simp; omega)
      ·
        have hqe : q2 = (cpa So.pa (m.map (·.1)) x).length := by omega
        rw [hqe] at hG2
        refine CW.exit (hE20 (.exit 2) nofun _ _ (hE18 (.exit 2) nofun _ _ (hX17 _ _ ?_)))
        refine hK14 _ _ ?_
        refine hK13 _ _ ?_
        refine CW.region ?_
        refine LR.v (Y.addi rfl rfl rfl (by omega)) (Wd.u rfl) rfl rfl ?_
        refine LR.v (Y.move rfl rfl) (Wd.u rfl) rfl rfl ?_
        refine LR.nil ?_
        refine QN.sub (hN10 (j + 1, gm2) _ ?_ ?_) ⟨rfl, rfl, rfl, rfl, (iv (by omega)), (iv (by omega)), trivial⟩
        · exact ⟨hgm, (by omega), fun k => by
            rw [hG2 k, List.take_length, List.take_succ_eq_append_getElem hjl, ← hx]
            by_cases h1 : k ∈ out.take j
            · rw [if_pos h1, if_pos (List.mem_append_left _ h1)]
            · rw [if_neg h1]
              by_cases h2 : k = x
              · subst h2; rw [if_pos rfl, if_pos (by simp), hgx]
              · rw [if_neg h2, if_neg (by simp [h1, h2])], hlm1⟩
        · first | omega | (simp only; omega) | (simp; omega)
    ·
      have hje : j = out.length := by omega
      rw [hje, List.take_length] at hG
      have hga := hG a
      rw [if_pos (hT.all a ((hU a).2 ⟨a, by simp, .refl⟩))] at hga
      refine CW.exit (hE12 (.exit 0) nofun _ _ (hE10 (.exit 0) nofun _ _ (hX9 _ _ ?_)))
      refine hK7 _ _ ?_
      refine CW.seq (fun K24 hK24 hE24 => ?_)
      refine CW.region ?_
      refine LR.v (Y.move rfl rfl) (Wd.u rfl) rfl rfl ?_
      refine LR.v (Y.loadN va.pt rfl Try.isAgg30 Try.sizeOf30 (fA_len _) rfl) (Wd.u rfl) rfl rfl ?_
      refine LR.v (Y.cast (v2 := .int .i64 (g a : Int)) (Y.lookupA hgm.mo keyId rfl Try.runUnderlying72 Try.zeroValue3 rfl rfl) (congrArg (Value.int .i64) hga)) (Wd.u rfl) rfl rfl ?_
      refine LR.v (Y.assign rfl rfl) (Wd.u rfl) rfl rfl ?_
      refine LR.v (Y.assign rfl rfl) (Wd.u rfl) rfl rfl ?_
      refine LR.nil ?_
      refine hK24 _ _ ?_
      refine CW.ret (hret .ret (.inr rfl) _ _ _ (res2 rfl rfl rfl) ?_)
      exact ⟨g a, 0, q, rfl, hv, ⟨⟨_, hA, fun _ => by rw [List.length_map]; exact hq.1 rfl⟩, fun _ => rfl, fun h => absurd rfl h⟩, by omega, hm0⟩

set_option maxHeartbeats 4000000 in
theorem ord_ct (So : Sou) (sb n : Nat) (F : Nat → Prop) (s1 s2 : SV) (fr un : List Ide) (rk : Ide → Nat) (w0 : World) (H0 : Heap)
    (hv : Var So.e H0 sb (So.cs n)) (hsr : SRd F H0 So) (bf_hsr : BF F H0.size) (dfs : DF F (sb + 1)) (hok : So.ok) (hn : n ≤ 800000000) (hf : Rd (fun b => b ≠ sb) H0 fA 32 s1.v fr) (hu : Rd (fun b => b ≠ sb) H0 fA 32 s2.v un) (hfl : fr.length + un.length ≤ 1000000) (hac : ∀ k ps, So.pa k = some ps → ∀ p ∈ ps, rk p < rk k) :
    Ct Try.prog w0 13 #[So.v sb, s1.v, s2.v] H0 (fun r H2 => ∃ s : SV, ∃ k : Nat, ∃ out : List Ide, ∃ e : Nat, ∃ q : Nat, r = .tuple #[s.v, eV e] ∧ (Ow k 30 H2 fA 32 s.v out) ∧ (Nx 0 H0.size k) ∧ (Var So.e H2 sb (So.cs q)) ∧ ((e = 0 ∧ Ord So.pa fr un out) ∨ (e ≠ 0 ∧ out = [] ∧ ∃ K, AllR So.pa (fr ++ un) K e)) ∧ (q ≤ n + 5001) ∧ Mo (Ms [(sb + 1)]) H0 H2) := by
  refine Ct.enter (args := [So.v sb, s1.v, s2.v]) Try.func13 rfl rfl rfl ?_
  intro Q0 hret
  have hm0 : Mo (Ms [(sb + 1)]) H0 H0 := Mo.refl _ _
  have nx_hm0_hv := Nx.refl (sb + 1) H0.size
  have hlt_hv := hv.lt
  replace hf := hf.bnd
  have bf_hf := hf.bf
  replace hu := hu.bnd
  have bf_hu := hu.bf
  have df_hf_hv : DF (fun b => b ≠ sb ∧ b < H0.size) (sb + 1) := fun b h => by have h1 := h.1; omega
  have df_hu_hv : DF (fun b => b ≠ sb ∧ b < H0.size) (sb + 1) := fun b h => by have h1 := h.1; omega
  refine CW.seq (fun K1 hK1 hE1 => ?_)
  refine CW.region ?_
  refine LR.v (Y.assign rfl rfl) (Wd.u rfl) rfl rfl ?_
  refine LR.v (Y.assign rfl rfl) (Wd.u rfl) rfl rfl ?_
  refine LR.nil ?_
  refine hK1 _ _ ?_
  refine CW.seq (fun K2 hK2 hE2 => ?_)
  refine CW.region ?_
  refine LR.v (Y.move rfl rfl) (Wd.u rfl) rfl rfl ?_
  refine LR.v (Y.move rfl rfl) (Wd.u rfl) rfl rfl ?_
  refine LR.v (Y.move rfl rfl) (Wd.u rfl) rfl rfl ?_
  refine LR.z (Z.litw _ ([(s1, fr), (s2, un)]) rfl inf92 rfl rfl rfl (by decide) (by decide) fLs_len fLs_one (rfl)) (Wd.u rfl) rfl rfl (fun v16 H16 r16 => ?_)
  obtain ⟨ow16, hs16, ob16, hH16⟩ := r16
  have hzs16 : H16.size = H0.size + 1 := by rw [hH16]; simp
  have dj1 : Dj (sb + 1) (H0.size + 1) := Dj.new hv.lt
  have df2 := (DF.new (bf_hsr.mono hm0.size) : DF _ (H0.size + 1))
  have df3 := (DF.new (bf_hf.mono hm0.size) : DF _ (H0.size + 1))
  have df4 := (DF.new (bf_hu.mono hm0.size) : DF _ (H0.size + 1))
  have nx5 : Nx 0 H0.size (H0.size + 1) := Nx.new hm0.size
  replace hv := hv.nw hs16
  replace hsr := hsr.nw hs16
  replace hf := hf.nw hs16
  replace hu := hu.nw hs16
  replace hm0 := hm0.trN hs16
  have hz1 := hs16.size
  -- call selvage/graph.all
  refine LR.call rfl Try.call27 rfl (Wd.u rfl) rfl rfl (all_ct So sb n _ _ [(s1, fr), (s2, un)] w0 _ hv hsr (bf_hsr.mono hm0.size) dfs hok (by omega) (Ow.ne ow16 (dj1)) (by simp) (fun x hx => by simp only [List.mem_cons, List.not_mem_nil, or_false] at hx; rcases hx with rfl | rfl; exact hf.imp (fun b _ h => h.1); exact hu.imp (fun b _ h => h.1)) (by simp; omega)) (fun v17 H17 r17 => ?_)
  obtain ⟨vc, m, e, q, rfl, hc, hv, hA, hq, hs17⟩ := r17
  replace hsr := hsr.upL hs17 (DFL.cons dfs DFL.nil)
  replace hf := hf.upL hs17 (DFL.cons df_hf_hv DFL.nil)
  replace hu := hu.upL hs17 (DFL.cons df_hu_hv DFL.nil)
  replace ow16 := ow16.upL hs17 (DL.cons dj1.symm DL.nil)
  replace hm0 := hm0.trL hs17 (MIL.cons (MI.app (MI.root (by simp)) (nx_hm0_hv) (Nat.le_refl _)) MIL.nil)
  have hz2 := hs17.size
  replace hc := hc.bnd
  have bf_hc := hc.bf
  have df6 : DF (fun b => H16.size ≤ b ∧ b < H17.size) (sb + 1) := DF.above (fun b h => h.1) (by first | exact hle_hv | exact hlt_hv | omega)
  have df7 : DF (fun b => H16.size ≤ b ∧ b < H17.size) (H0.size + 1) := DF.above (fun b h => h.1) (by first | exact hle_ow16 | exact hlt_ow16 | omega)
  replace hA : AllR So.pa (fr ++ un) (m.map (·.1)) e := by simpa using hA
  refine LR.v (Y.move rfl rfl) (Wd.u rfl) rfl rfl ?_
  refine LR.v (Y.extract rfl rfl rfl) (Wd.u rfl) rfl rfl ?_
  refine LR.v (Y.extract rfl rfl rfl) (Wd.u rfl) rfl rfl ?_
  refine LR.v (Y.assign rfl rfl) (Wd.u rfl) rfl rfl ?_
  refine LR.v (Y.assign rfl rfl) (Wd.u rfl) rfl rfl ?_
  refine LR.nil ?_
  refine hK2 _ _ ?_
  refine CW.seq (fun K3 hK3 hE3 => ?_)
  refine CW.seq (fun K4 hK4 hE4 => ?_)
  refine CW.region ?_
  refine LR.v (Y.move rfl rfl) (Wd.u rfl) rfl rfl ?_
  refine LR.v (Y.ene rfl Try.underlying33 rfl) (Wd.u rfl) rfl rfl ?_
  refine LR.nil ?_
  refine hK4 _ _ ?_
  refine CW.condp rfl (fun c21 => ?_) (fun c21 => ?_)
  ·
    refine CW.seq (fun K5 hK5 hE5 => ?_)
    refine CW.region ?_
    refine LR.v (Y.move rfl rfl) (Wd.u rfl) rfl rfl ?_
    refine LR.v (Y.assign rfl rfl) (Wd.u rfl) rfl rfl ?_
    refine LR.v (Y.assign rfl rfl) (Wd.u rfl) rfl rfl ?_
    refine LR.nil ?_
    refine hK5 _ _ ?_
    refine CW.ret (hE3 .ret nofun _ _ (hret .ret (.inr rfl) _ _ _ (res2 rfl rfl rfl) ?_))
    exact ⟨⟨none, 0, 0⟩, 0, [], e, q, rfl, Ow.nil fA_len fA_one, Nx.refl _ _, hv, .inr ⟨c21, rfl, _, hA⟩, by omega, hm0⟩
  ·
    obtain rfl : e = 0 := by omega
    replace hc := hc.get rfl
    have hco := cok_of hok hA
    obtain ⟨_, _, hstK, _, _⟩ := all0 hA
    have hml := hco.le
    have hfK : ∀ k ∈ fr, k ∈ m.map (·.1) := fun k hk => hstK k (List.mem_append_left _ hk)
    have huK : ∀ k ∈ un, k ∈ m.map (·.1) := fun k hk => hstK k (List.mem_append_right _ hk)
    refine CW.skip ?_
    refine hK3 _ _ ?_
    refine CW.seq (fun K6 hK6 hE6 => ?_)
    refine CW.region ?_
    refine LR.v (Y.move rfl rfl) (Wd.u rfl) rfl rfl ?_
    refine LR.v (Y.move rfl rfl) (Wd.u rfl) rfl rfl ?_
    -- call (selvage/graph.commits).above
    refine LR.call rfl Try.call28 rfl (Wd.u rfl) rfl rfl (above_ct _ _ _ _ _ fr w0 _ hc (bf_hc.mono (by omega)) hco hf.any hfK (by omega)) (fun v25 H25 r25 => ?_)
    obtain ⟨a1, mm, rfl, h1, hk1, hU1, hs25⟩ := r25
    have dj8 : Dj (sb + 1) (a1 + 1) := Dj.app (Dj.z) hv.lt hk1
    have df9 := DF.app (DF.z) (bf_hsr.mono hm0.size) hk1
    have df10 := DF.app (DF.z) (bf_hf.mono hm0.size) hk1
    have df11 := DF.app (DF.z) (bf_hu.mono hm0.size) hk1
    have dj12 : Dj (H0.size + 1) (a1 + 1) := Dj.app (Dj.z) ow16.le hk1
    have df13 := DF.app (DF.z) (bf_hc.mono (by omega)) hk1
    have nx14 : Nx 0 H0.size (a1 + 1) := Nx.tr (Nx.refl 0 _) hk1 hm0.size
    replace hv := hv.nw hs25
    replace hsr := hsr.nw hs25
    replace hf := hf.nw hs25
    replace hu := hu.nw hs25
    replace ow16 := ow16.nw hs25
    replace hc := hc.nw hs25
    replace hm0 := hm0.trN hs25
    have hz3 := hs25.size
    have hle_h1 := h1.le
    refine LR.v (Y.assign rfl rfl) (Wd.u rfl) rfl rfl ?_
    refine LR.nil ?_
    refine hK6 _ _ ?_
    refine CW.seq (fun K7 hK7 hE7 => ?_)
    refine CW.seq (fun K8 hK8 hE8 => ?_)
    refine CW.region ?_
    refine LR.v (Y.move rfl rfl) (Wd.u rfl) rfl rfl ?_
    refine LR.v (Y.move rfl rfl) (Wd.u rfl) rfl rfl ?_
    -- call (selvage/graph.commits).above
    refine LR.call rfl Try.call28 rfl (Wd.u rfl) rfl rfl (above_ct _ _ _ _ _ un w0 _ hc (bf_hc.mono (by omega)) hco hu.any huK (by omega)) (fun v28 H28 r28 => ?_)
    obtain ⟨a2, mu, rfl, h2, hk2, hU2, hs28⟩ := r28
    have dj15 : Dj (sb + 1) (a2 + 1) := Dj.app (Dj.z) hv.lt hk2
    have df16 := DF.app (DF.z) (bf_hsr.mono hm0.size) hk2
    have df17 := DF.app (DF.z) (bf_hf.mono hm0.size) hk2
    have df18 := DF.app (DF.z) (bf_hu.mono hm0.size) hk2
    have dj19 : Dj (H0.size + 1) (a2 + 1) := Dj.app (Dj.z) ow16.le hk2
    have df20 := DF.app (DF.z) (bf_hc.mono (by omega)) hk2
    have dj21 : Dj (a1 + 1) (a2 + 1) := Dj.app (Dj.z) h1.le hk2
    have nx22 : Nx 0 H0.size (a2 + 1) := Nx.tr (Nx.refl 0 _) hk2 hm0.size
    replace hv := hv.nw hs28
    replace hsr := hsr.nw hs28
    replace hf := hf.nw hs28
    replace hu := hu.nw hs28
    replace ow16 := ow16.nw hs28
    replace hc := hc.nw hs28
    replace h1 := h1.nw hs28
    replace hm0 := hm0.trN hs28
    have hz4 := hs28.size
    have hle_h2 := h2.le
    obtain ⟨es, ck, h2⟩ := h2.raw
    refine LR.z (Z.rangeA h2 rfl Try.runUnderlying72 rfl) (Wd.u rfl) rfl rfl (fun v29 H29 r29 => ?_)
    obtain ⟨rfl, it, hs29, ob29, hH29⟩ := r29
    have hzs29 : H29.size = H28.size + 1 := by rw [hH29]; simp
    have dj23 : Dj (sb + 1) (H28.size + 1) := Dj.new hv.lt
    have df24 := (DF.new (bf_hsr.mono hm0.size) : DF _ (H28.size + 1))
    have df25 := (DF.new (bf_hf.mono hm0.size) : DF _ (H28.size + 1))
    have df26 := (DF.new (bf_hu.mono hm0.size) : DF _ (H28.size + 1))
    have dj27 : Dj (H0.size + 1) (H28.size + 1) := Dj.new ow16.le
    have df28 := (DF.new (bf_hc.mono (by omega)) : DF _ (H28.size + 1))
    have dj29 : Dj (a1 + 1) (H28.size + 1) := Dj.new h1.le
    have dj30 : Dj (a2 + 1) (H28.size + 1) := Dj.new h2.le
    have nx31 : Nx 0 H0.size (H28.size + 1) := Nx.new hm0.size
    replace hv := hv.nw hs29
    replace hsr := hsr.nw hs29
    replace hf := hf.nw hs29
    replace hu := hu.nw hs29
    replace ow16 := ow16.nw hs29
    replace hc := hc.nw hs29
    replace h1 := h1.nw hs29
    replace h2 := h2.nw hs29
    replace hm0 := hm0.trN hs29
    have hz5 := hs29.size
    have hlt_it := it.lt
    refine LR.nil ?_
    refine hK8 _ _ ?_
    refine CW.block (fun K9 hK9 hX9 hE9 => ?_)
    refine CW.loop (fun (s_ : (List Ide) × (List (Ide × Int))) => match s_ with | (dn, mk) => [(8, vc), (10, .map (some a1)), (29, .pointer (some ⟨H28.size, 0, none⟩))])
      (fun (s_ : (List Ide) × (List (Ide × Int))) (H : Heap) => match s_ with | (dn, mk) => (Itr H H28.size a2 vA es ck dn) ∧ (Mp H vA (Value.int .i64) a1 mk) ∧ (∀ k, (mget mk k).isSome = true ↔ (mget mm k).isSome = true ∧ k ∉ dn) ∧ (dn.Nodup ∧ ∀ k ∈ dn, k ∈ mu.map (·.1)) ∧ Mo (Ms [(H28.size + 1), (a1 + 1)]) H29 H)
      (fun (s_ : (List Ide) × (List (Ide × Int))) => match s_ with | (dn, mk) => mu.length - dn.length) ([], mm) ⟨rfl, rfl, rfl, trivial⟩ ?_ ?_
    ·
      exact ⟨it, h1, fun k => by simp, ⟨List.nodup_nil, by simp⟩, Mo.refl _ _⟩
    rintro ⟨dn, mk⟩ HL1 hI1 K10 hN10 hE10
    obtain ⟨it, h1, hD, hdn, hlm1⟩ := hI1
    replace hv := hv.upL hlm1 (DL.cons dj23 (DL.cons dj8 DL.nil))
    replace hsr := hsr.upL hlm1 (DFL.cons df24 (DFL.cons df9 DFL.nil))
    replace hf := hf.upL hlm1 (DFL.cons df25 (DFL.cons df10 DFL.nil))
    replace hu := hu.upL hlm1 (DFL.cons df26 (DFL.cons df11 DFL.nil))
    replace ow16 := ow16.upL hlm1 (DL.cons dj27 (DL.cons dj12 DL.nil))
    replace hc := hc.upL hlm1 (DFL.cons df28 (DFL.cons df13 DFL.nil))
    replace h2 := h2.upL hlm1 (DL.cons dj30 (DL.cons dj21.symm DL.nil))
    replace hm0 := hm0.trL hlm1 (MIL.cons (MI.app MI.z (nx31) (Nat.le_refl _)) (MIL.cons (MI.app MI.z (nx14) (Nat.le_refl _)) MIL.nil))
    have hz6 := hlm1.size
    have nx_hlm1_it := Nx.refl (H28.size + 1) H29.size
    have nx_hlm1_h1 := Nx.refl (a1 + 1) H29.size
    refine CW.seq (fun K11 hK11 hE11 => ?_)
    refine CW.region ?_
    refine LR.z (Z.nextA it h2 keyId.inj rfl rfl) (Wd.u rfl) rfl rfl (fun v30 H30 r30 => ?_)
    obtain ⟨qb, x, y, dn2, rfl, it, hT30, hF30, hs30⟩ := r30
    replace hs30 := hs30.md1
    replace hv := hv.upL hs30 (DL.cons dj23 DL.nil)
    replace hsr := hsr.upL hs30 (DFL.cons df24 DFL.nil)
    replace hf := hf.upL hs30 (DFL.cons df25 DFL.nil)
    replace hu := hu.upL hs30 (DFL.cons df26 DFL.nil)
    replace ow16 := ow16.upL hs30 (DL.cons dj27 DL.nil)
    replace hc := hc.upL hs30 (DFL.cons df28 DFL.nil)
    replace h1 := h1.upL hs30 (DL.cons dj29 DL.nil)
    replace h2 := h2.upL hs30 (DL.cons dj30 DL.nil)
    replace hm0 := hm0.trL hs30 (MIL.cons (MI.app MI.z (nx31) (Nat.le_refl _)) MIL.nil)
    replace hlm1 := hlm1.trL hs30 (MIL.cons (MI.app (MI.root (by simp)) (nx_hlm1_it) (Nat.le_refl _)) MIL.nil)
    have hz7 := hs30.size
    refine LR.v (Y.ext0 rfl rfl) (Wd.u rfl) rfl rfl ?_
    refine LR.nil ?_
    refine hK11 _ _ ?_
    refine CW.seq (fun K12 hK12 hE12 => ?_)
    refine CW.cond rfl (fun c31 => ?_) (fun c31 => ?_)
    ·
      obtain ⟨hxy, hnd, hdq⟩ := hT30 c31
      rw [hdq] at it
      refine CW.skip ?_
      refine hK12 _ _ ?_
      refine CW.block (fun K13 hK13 hX13 hE13 => ?_)
      refine CW.seq (fun K14 hK14 hE14 => ?_)
      refine CW.region ?_
      refine LR.v (Y.entryA it h2 keyId.inj hxy rfl rfl) (Wd.u rfl) rfl rfl ?_
      refine LR.v (Y.extract rfl rfl rfl) (Wd.u rfl) rfl rfl ?_
      refine LR.z (Z.allocv rfl Try.zeroValue30) (Wd.u rfl) rfl rfl (fun v11 H11 r11 => ?_)
      obtain ⟨rfl, vi, hs11, ob11, hH11⟩ := r11
      have hzs11 : H11.size = H30.size + 1 := by rw [hH11]; simp
      have dj32 : Dj (sb + 1) (H30.size + 1) := Dj.new hv.lt
      have df33 := (DF.new (bf_hsr.mono hm0.size) : DF _ (H30.size + 1))
      have df34 := (DF.new (bf_hf.mono hm0.size) : DF _ (H30.size + 1))
      have df35 := (DF.new (bf_hu.mono hm0.size) : DF _ (H30.size + 1))
      have dj36 : Dj (H0.size + 1) (H30.size + 1) := Dj.new ow16.le
      have df37 := (DF.new (bf_hc.mono (by omega)) : DF _ (H30.size + 1))
      have dj38 : Dj (a1 + 1) (H30.size + 1) := Dj.new h1.le
      have dj39 : Dj (a2 + 1) (H30.size + 1) := Dj.new h2.le
      have dj40 : Dj (H28.size + 1) (H30.size + 1) := Dj.new it.lt
      have nx41 : Nx 0 H0.size (H30.size + 1) := Nx.new hm0.size
      have nx42 : Nx 0 H29.size (H30.size + 1) := Nx.new hlm1.size
      replace hv := hv.nw hs11
      replace hsr := hsr.nw hs11
      replace hf := hf.nw hs11
      replace hu := hu.nw hs11
      replace ow16 := ow16.nw hs11
      replace hc := hc.nw hs11
      replace h1 := h1.nw hs11
      replace h2 := h2.nw hs11
      replace it := it.nw hs11
      replace hm0 := hm0.trN hs11
      replace hlm1 := hlm1.trN hs11
      have hz8 := hs11.size
      replace vi : Var 30 H11 H30.size (fA Zid) := vi
      refine LR.s (S.var vi (_) (fA (x)) rfl rfl rfl rfl (fA_one _) Try.sizeOf30 (fA_len _) (by first | decide | simp [fA_len]) ((splice_all2 (by first | exact (fA_len _).symm | rfl | exact (fA_len _).trans (fA_len _).symm)))) (Wd.u rfl) rfl (fun H7_3 r7_3 => ?_)
      obtain ⟨vi, hs7_3⟩ := r7_3
      replace hs7_3 := hs7_3.md1
      replace hv := hv.upL hs7_3 (DL.cons dj32 DL.nil)
      replace hsr := hsr.upL hs7_3 (DFL.cons df33 DFL.nil)
      replace hf := hf.upL hs7_3 (DFL.cons df34 DFL.nil)
      replace hu := hu.upL hs7_3 (DFL.cons df35 DFL.nil)
      replace ow16 := ow16.upL hs7_3 (DL.cons dj36 DL.nil)
      replace hc := hc.upL hs7_3 (DFL.cons df37 DFL.nil)
      replace h1 := h1.upL hs7_3 (DL.cons dj38 DL.nil)
      replace h2 := h2.upL hs7_3 (DL.cons dj39 DL.nil)
      replace it := it.upL hs7_3 (DL.cons dj40 DL.nil)
      replace hm0 := hm0.trL hs7_3 (MIL.cons (MI.app MI.z (nx41) (Nat.le_refl _)) MIL.nil)
      replace hlm1 := hlm1.trL hs7_3 (MIL.cons (MI.app MI.z (nx42) (Nat.le_refl _)) MIL.nil)
      have hz9 := hs7_3.size
      refine LR.nil ?_
      refine hK14 _ _ ?_
      refine CW.region ?_
      refine LR.v (Y.move rfl rfl) (Wd.u rfl) rfl rfl ?_
      refine LR.v (Y.loadN vi.pt rfl Try.isAgg30 Try.sizeOf30 (fA_len _) rfl) (Wd.u rfl) rfl rfl ?_
      refine LR.zn (Z.delA h1 keyId rfl Try.runUnderlying72 rfl rfl) (Wd.u rfl) rfl (fun v8_2 H8_2 r8_2 => ?_)
      obtain ⟨rfl, h1, hs8_2⟩ := r8_2
      replace hs8_2 := hs8_2.md1
      replace hv := hv.upL hs8_2 (DL.cons dj8 DL.nil)
      replace hsr := hsr.upL hs8_2 (DFL.cons df9 DFL.nil)
      replace hf := hf.upL hs8_2 (DFL.cons df10 DFL.nil)
      replace hu := hu.upL hs8_2 (DFL.cons df11 DFL.nil)
      replace ow16 := ow16.upL hs8_2 (DL.cons dj12 DL.nil)
      replace hc := hc.upL hs8_2 (DFL.cons df13 DFL.nil)
      replace h2 := h2.upL hs8_2 (DL.cons dj21.symm DL.nil)
      replace it := it.upL hs8_2 (DL.cons dj29.symm DL.nil)
      replace vi := vi.upL hs8_2 (DL.cons dj38.symm DL.nil)
      replace hm0 := hm0.trL hs8_2 (MIL.cons (MI.app MI.z (nx14) (Nat.le_refl _)) MIL.nil)
      replace hlm1 := hlm1.trL hs8_2 (MIL.cons (MI.app (MI.root (by simp)) (nx_hlm1_h1) (Nat.le_refl _)) MIL.nil)
      have hz10 := hs8_2.size
      refine LR.nil ?_
      refine hK13 _ _ ?_
      have hdn2 : (dn ++ [x]).Nodup ∧ ∀ k ∈ dn ++ [x], k ∈ mu.map (·.1) := by
        refine ⟨?_, fun k hk => ?_⟩
        · rw [List.nodup_append]
          exact ⟨hdn.1, by simp, fun a ha b hb e => by simp only [List.mem_singleton] at hb; subst hb; subst e; exact hnd ha⟩
        · rcases List.mem_append.1 hk with hk | hk
          · exact hdn.2 k hk
          · rw [List.mem_singleton.1 hk]; exact List.mem_map.2 ⟨_, hxy, rfl⟩
      have hdl2 := nodup_le hdn2.1 hdn2.2
      rw [List.length_append, List.length_map, List.length_singleton] at hdl2
      refine QN.sub (hN10 (dn ++ [x], mdel mk x) _ ?_ ?_) ⟨rfl, rfl, rfl, trivial⟩
      · exact ⟨it, h1, fun k => by
          rw [mget_del]
          by_cases h1 : k = x
          · subst h1; simp
          · rw [if_neg h1, hD k]; simp [h1], hdn2, hlm1⟩
      · simp <;> omega
    ·
      obtain ⟨hall, hdq⟩ := hF30 c31
      have hkk : ∀ k, k ∈ mk.map (·.1) ↔ (∃ i ∈ fr, UpO So.pa i k) ∧ ¬ ∃ i ∈ un, UpO So.pa i k := fun k => by
        have h9 : k ∈ dn ↔ k ∈ mu.map (·.1) := ⟨hdn.2 k, fun h => by obtain ⟨p, hp, rfl⟩ := List.mem_map.1 h; exact hall p hp⟩
        rw [← isSome_iff_key, hD k, isSome_iff_key, h9, hU1, hU2, up_list hA hfK, up_list hA huK]
      have hmk5 := nodup_le h1.mo.nodup (fun k hk => by obtain ⟨i, hi, hu9⟩ := ((hkk k).1 hk).1; exact up_in hA (hfK i hi) hu9)
      rw [List.length_map, List.length_map] at hmk5
      refine CW.exit (hE12 (.exit 0) nofun _ _ (hE10 (.exit 0) nofun _ _ (hX9 _ _ ?_)))
      refine hK7 _ _ ?_
      refine CW.seq (fun K15 hK15 hE15 => ?_)
      refine CW.region ?_
      refine LR.v (Y.move rfl rfl) (Wd.u rfl) rfl rfl ?_
      refine LR.v (Y.move rfl rfl) (Wd.u rfl) rfl rfl ?_
      -- call (selvage/graph.commits).order
      refine LR.call rfl Try.call29 rfl (Wd.u rfl) rfl rfl (order_ct _ _ _ _ a1 mk rk w0 _ hc (bf_hc.mono (by omega)) hco h1 (by omega) (cpa_ac hac)) (fun v38 H38 r38 => ?_)
      obtain ⟨s38, k38, out, rfl, oo, hk38, hT, hs38⟩ := r38
      have dj43 : Dj (sb + 1) k38 := Dj.app (Dj.z) hv.lt hk38
      have df44 := DF.app (DF.z) (bf_hsr.mono hm0.size) hk38
      have df45 := DF.app (DF.z) (bf_hf.mono hm0.size) hk38
      have df46 := DF.app (DF.z) (bf_hu.mono hm0.size) hk38
      have dj47 : Dj (H0.size + 1) k38 := Dj.app (Dj.z) ow16.le hk38
      have df48 := DF.app (DF.z) (bf_hc.mono (by omega)) hk38
      have dj49 : Dj (a1 + 1) k38 := Dj.app (Dj.z) h1.le hk38
      have dj50 : Dj (a2 + 1) k38 := Dj.app (Dj.z) h2.le hk38
      have dj51 : Dj (H28.size + 1) k38 := Dj.app (Dj.z) it.lt hk38
      have nx52 : Nx 0 H0.size k38 := Nx.tr (Nx.refl 0 _) hk38 hm0.size
      replace hv := hv.nw hs38
      replace hsr := hsr.nw hs38
      replace hf := hf.nw hs38
      replace hu := hu.nw hs38
      replace ow16 := ow16.nw hs38
      replace hc := hc.nw hs38
      replace h1 := h1.nw hs38
      replace h2 := h2.nw hs38
      replace it := it.nw hs38
      replace hm0 := hm0.trN hs38
      have hz11 := hs38.size
      have hle_oo := oo.le
      refine LR.v (Y.assign rfl rfl) (Wd.u rfl) rfl rfl ?_
      refine LR.v (Y.assign rfl rfl) (Wd.u rfl) rfl rfl ?_
      refine LR.nil ?_
      refine hK15 _ _ ?_
      refine CW.ret (hret .ret (.inr rfl) _ _ _ (res2 rfl rfl rfl) ?_)
      exact ⟨s38, k38, out, 0, q, rfl, oo, nx52, hv, .inl ⟨rfl, _, _, hA, hT, hkk⟩, by omega, hm0⟩

end Go.Proofs.Ytepdhokpfecdnaa.GraJ
/-
  A range over a function: the rounds of its body, the call of yield, what stays behind: no condition.
-/
namespace Go.Proofs.Ytepdhokpfecdnaa.E
set_option linter.unusedVariables false
set_option linter.unusedSimpArgs false
set_option linter.unusedSectionVars false
/-- the fence that lets all in, in a round or in none -/
abbrev FW (ro : Option Nat) : Fence := { Fence.wide with round := ro }
/-- the block b is a loop's record -/
structure Lpr (H : Heap) (b : Nat) (r : Loop) : Prop where
  at_ : H[b]? = some (.loop r)
/-- the block b bears the calls that were put off -/
structure Dfr (H : Heap) (b : Nat) : Prop where
  at_ : H[b]? = some (.deferred (some []))
section
variable {H H' : Heap} {b : Nat} {r : Loop} {ks : List Nat}
theorem Lpr.lt (h : Lpr H b r) : b < H.size := (Array.getElem?_eq_some_iff.1 h.at_).1
theorem Lpr.le (h : Lpr H b r) : b + 1 ≤ H.size := h.lt
theorem Lpr.up {S : Nat → Prop} (h : Lpr H b r) (s : Mo S H H') (hS : ¬ S b) : Lpr H' b r := ⟨by rw [s.same b h.lt hS]; exact h.at_⟩
theorem Lpr.nw (h : Lpr H b r) (s : Nw H H') : Lpr H' b r := h.up s (fun e => e)
theorem Lpr.upL (h : Lpr H b r) (s : Mo (Ms ks) H H') (d : DL (b + 1) ks) : Lpr H' b r := h.up s (fun h2 => d (b + 1) h2 b rfl rfl)
theorem Dfr.lt (h : Dfr H b) : b < H.size := (Array.getElem?_eq_some_iff.1 h.at_).1
theorem Dfr.le (h : Dfr H b) : b + 1 ≤ H.size := h.lt
theorem Dfr.up {S : Nat → Prop} (h : Dfr H b) (s : Mo S H H') (hS : ¬ S b) : Dfr H' b := ⟨by rw [s.same b h.lt hS]; exact h.at_⟩
theorem Dfr.nw (h : Dfr H b) (s : Nw H H') : Dfr H' b := h.up s (fun e => e)
theorem Dfr.upL (h : Dfr H b) (s : Mo (Ms ks) H H') (d : DL (b + 1) ks) : Dfr H' b := h.up s (fun h2 => d (b + 1) h2 b rfl rfl)
end
theorem Var.le {e : TypeId} {H : Heap} {b : Nat} {cs : List Value} (h : Var e H b cs) : b + 1 ≤ H.size := h.lt
/-- operations in the text's order, within a fence that lets all in -/
def LRI (ro : Option Nat) (P : Program) (w0 : World) (ops : Array Oper) (Q : Exit → Act → World → Prop) (n : Nat) (l : FL) (rest : List Oper) (H : Heap) : Prop :=
  ∀ a w, Fr n l a → At w0 H w → wpListIn (FW ro) 0 P ops Q rest a w
/-- yield, called with these: a round -/
def YCt (P : Program) (w0 : World) (lp : Nat) (args : List Value) (H : Heap) (R : Value → Heap → Prop) : Prop :=
  ∀ w, At w0 H w → YieldAt (FW none) 0 P lp args.toArray w (fun e w' => ∃ r H', e = .returned r ∧ At w0 H' w' ∧ R r H')
section
variable {ro : Option Nat} {P : Program} {w0 : World} {Q : Exit → Act → World → Prop} {n : Nat} {l : FL} {H : Heap} {ops : Array Oper} {rest : List Oper} {o : Oper}
theorem LRI.nil (h : QN w0 Q n l H) : LRI ro P w0 ops Q n l [] H := fun a w hf ha => h a w hf ha
theorem LRI.v {v : Value} {d : Nat} (hy : Y P w0 n l H o v) (hnd : ∀ c, o.op ≠ .defer c) (hw : Wd ops l o) (hd : o.dst = some d) (hn : Nat.blt d n = true) (h : LRI ro P w0 ops Q n ((d, v) :: l) rest H) : LRI ro P w0 ops Q n l (o :: rest) H := by
  intro a w hf ha
  have hp := hf.put hn v
  rw [← hd] at hp
  unfold wpListIn
  rw [if_pos (hw n a hf)]
  refine ⟨fun _ _ => trivial, ?_⟩
  rw [Oper.semAt_eq _ _ _ hnd, hy a w hf ha]
  exact h _ w hp ha
theorem LRI.z {R : Value → Heap → Prop} {d : Nat} (hz : Z P w0 n l H o R) (hnd : ∀ c, o.op ≠ .defer c) (hw : Wd ops l o) (hd : o.dst = some d) (hn : Nat.blt d n = true) (h : ∀ v H', R v H' → LRI ro P w0 ops Q n ((d, v) :: l) rest H') : LRI ro P w0 ops Q n l (o :: rest) H := by
  intro a w hf ha
  obtain ⟨v, H', w', hr, ha', hR⟩ := hz a w hf ha
  have hp := hf.put hn v
  rw [← hd] at hp
  unfold wpListIn
  rw [if_pos (hw n a hf)]
  refine ⟨fun _ _ => trivial, ?_⟩
  rw [Oper.semAt_eq _ _ _ hnd, hr]
  exact h v H' hR _ w' hp ha'
theorem LRI.s {R : Heap → Prop} (hz : S P w0 n l H o R) (hnd : ∀ c, o.op ≠ .defer c) (hw : Wd ops l o) (hd : o.dst = none) (h : ∀ H', R H' → LRI ro P w0 ops Q n l rest H') : LRI ro P w0 ops Q n l (o :: rest) H := by
  intro a w hf ha
  obtain ⟨H', w', hr, ha', hR⟩ := hz a w hf ha
  unfold wpListIn
  rw [if_pos (hw n a hf)]
  refine ⟨fun _ _ => trivial, ?_⟩
  rw [Oper.semAt_eq _ _ _ hnd, hr]
  show wpListIn (FW ro) 0 P ops Q rest (a.put o.dst undef) w'
  rw [hd]
  exact h H' hR a w' hf ha'
theorem LRI.round {R : Value → Heap → Prop} {d lp : Nat} {c : Operand} {args : List Operand} {ats : Array TypeId} {vs : List Value} (ho : o.op = .call { callee := .value c, args := args.toArray, argTypes := ats })
    (hcv : opv l c = some (.func (.yield lp) #[] #[])) (hv : opvs l args = some vs) (hw : Wd ops l o) (hd : o.dst = some d) (hn : Nat.blt d n = true) (hc : YCt P w0 lp vs H R)
    (h : ∀ v H', R v H' → LRI none P w0 ops Q n ((d, v) :: l) rest H') : LRI none P w0 ops Q n l (o :: rest) H := by
  intro a w hf ha
  obtain ⟨fn, tmps, assign, body, hy, hr⟩ := hc w ha
  have he : (execOp a.eval o).run P w = .ok (.round lp fn tmps assign body) w := by
    have h2 := hf.evals hv
    have h3 : (args.toArray.map a.eval) = vs.toArray := by rw [List.map_toArray, h2]
    simp [execOp, ho, resolve, Deferred.ofValue, hf.eval hcv, invoke, h2, hy]
  unfold wpListIn
  rw [if_pos (hw n a hf)]
  refine ⟨fun _ _ => trivial, ?_⟩
  rw [Oper.semAt_eq _ _ _ (by intro c e; rw [ho] at e; cases e), he, Oper.uponIn_round]
  refine ⟨fun q => (by cases q), ?_⟩
  refine hr.mono ?_
  rintro e w' ⟨r, H', rfl, ha', hR⟩
  have hp := hf.put hn r
  rw [← hd] at hp
  exact h r H' hR _ w' hp ha'
theorem CW.region_in {id : Nat} {lo : List Oper} (h : LRI none P w0 lo.toArray Q n l lo H) : CW P w0 Q n l (.region id lo.toArray false) H :=
  fun a w hf ha => wpIn_wide.1 (wpIn_region_lit (h a w hf ha))
theorem LRI.mono {Q2 : Exit → Act → World → Prop} (hq : ∀ e a w, Q e a w → Q2 e a w) {id : Nat} {lo : List Oper} (h : LRI ro P w0 lo.toArray Q n l lo H) {a : Act} {w : World} (hf : Fr n l a) (ha : At w0 H w) : (Code.region id lo.toArray false).wpIn (FW ro) 0 P Q2 a w :=
  Code.wpIn_mono hq (wpIn_region_lit (h a w hf ha))
/-- a round out of the walks of its two pieces of code -/
theorem YCt.of {r : Loop} {x : Value} {p lp ida idb idc : Nat} {la lb : List Oper} {R : Value → Heap → Prop} (hl : Lpr H lp r) (hst : r.state = .ready) (hpe : r.pending = none) (hps : r.params = #[p]) (hA : r.assign = .region ida la.toArray false) (hB : r.body = .block idb (.region idc lb.toArray false))
    (hf : Fr n l { tmps := r.tmps.setIfInBounds p x, defers := [] })
    (h : LRI (some lp) P w0 la.toArray (fun e a1 w1 => e = .normal ∧ ∃ l2 H2, Fr n l2 a1 ∧ At w0 H2 w1 ∧ Lpr H2 lp r ∧
      LRI (some lp) P w0 lb.toArray (fun e a3 w3 => e = .normal ∧ ∃ H3, At w0 H3 w3 ∧ Lpr H3 lp { r with state := .busy } ∧ R (.bool true) (H3.setIfInBounds lp (.loop r))) n l2 lb (H2.setIfInBounds lp (.loop { r with state := .busy }))) n l la H) :
    YCt P w0 lp [x] H R := by
  intro w ha
  have hlw : w.heap[lp]? = some (.loop r) := by rw [ha.heap]; exact hl.at_
  refine ⟨r.fn, r.tmps.setIfInBounds p x, r.assign, r.body, ?_, ?_⟩
  · have := run_yield (P := P) (args := #[x]) hlw (by rw [hps]; rfl)
    rw [hps] at this
    simpa using this
  · refine roundIn_of_wpIn (F := FW none) trivial ?_
    rw [hA, hB]
    refine LRI.mono (ro := some lp) ?_ h hf ha
    rintro e a1 w1 ⟨rfl, l2, H2, hf2, ha2, hl2, hb⟩
    have hlw2 : w1.heap[lp]? = some (.loop r) := by rw [ha2.heap]; exact hl2.at_
    refine ⟨_, run_beginRound (P := P) hlw2 hst, ?_⟩
    have ha3 : At w0 (H2.setIfInBounds lp (.loop { r with state := .busy })) (w1.putObj lp (.loop { r with state := .busy })) := by
      unfold World.putObj
      rw [ha2.heap]
      exact ha2.set
    refine wpIn_block ?_
    refine LRI.mono (ro := some lp) ?_ hb hf2 ha3
    rintro e a3 w3 ⟨rfl, H3, ha4, hl4, hR⟩
    have hlw4 : w3.heap[lp]? = some (.loop { r with state := .busy }) := by rw [ha4.heap]; exact hl4.at_
    refine ⟨_, _, run_endRound (P := P) none hlw4, .bool true, H3.setIfInBounds lp (.loop r), rfl, ?_, hR⟩
    have hr2 : ({ ({ r with state := .busy } : Loop) with state := if (none : Option Code).isNone then .ready else .done, pending := none } : Loop) = r := by
      cases r
      simp only at hst hpe
      subst hst hpe
      rfl
    rw [hr2]
    unfold World.putObj
    rw [ha4.heap]
    exact ha4.set
end
end Go.Proofs.Ytepdhokpfecdnaa.E
/-
  The keys of a map, collected and sorted.
-/
namespace Go.Proofs.Ytepdhokpfecdnaa.GraK
open Go.Proofs.Ytepdhokpfecdnaa.E Go.RowKit Go.Proofs.Ytepdhokpfecdnaa.GraA Go.Proofs.Ytepdhokpfecdnaa.GraB Go.Proofs.Ytepdhokpfecdnaa.GraC Go.Proofs.Ytepdhokpfecdnaa.GraD Go.Proofs.Ytepdhokpfecdnaa.GraE Go.Proofs.Ytepdhokpfecdnaa.GraF Go.Proofs.Ytepdhokpfecdnaa.GraG Go.Proofs.Ytepdhokpfecdnaa.GraH Go.Proofs.Ytepdhokpfecdnaa.GraI Go.Proofs.Ytepdhokpfecdnaa.GraJ
set_option maxRecDepth 20000
set_option linter.unusedVariables false
set_option linter.unusedSimpArgs false
set_option linter.unusedSectionVars false
set_option maxRecDepth 100000 in
theorem inf28 : Inf Try.prog 28 30 32 32 := ⟨Try.underlying28, _, _, rfl, rfl, rfl, rfl, rfl⟩

def rfOf : Code → Code
  | .seq _ (.seq (.seq _ (.block _ c)) _) => c
  | _ => .skip
def asOf : Code → Code
  | .rangeFunc _ _ c _ => c
  | _ => .skip
def boOf : Code → Code
  | .rangeFunc _ _ _ c => c
  | _ => .skip
/-- the loop's record -/
structure ApR (r : Loop) (Bs : Nat) : Prop where
  st : r.state = .ready
  pe : r.pending = none
  ps : r.params = #[7]
  A : r.assign = asOf (rfOf (Try.f51.body.getD .skip))
  B : r.body = boOf (rfOf (Try.f51.body.getD .skip))
  fr : Fr Try.f51.ntmps [(2, .pointer (some ⟨Bs, 0, none⟩))] { tmps := r.tmps, defers := [] }
theorem ap_round (r : Loop) (Bs lp kr : Nat) (vr : Value) (ss : List Ide) (x : Ide) (w0 : World) (H : Heap) (hr : ApR r Bs) (hl : Lpr H lp r) (hB : Var 28 H Bs [vr]) (ho : Ow kr 30 H fA 32 vr ss) (d1 : Dj (lp + 1) (Bs + 1)) (d2 : Dj (lp + 1) kr) (d3 : Dj (Bs + 1) kr) (hlen : ss.length ≤ 5000) :
    YCt Try.prog w0 lp [vA x] H (fun r' H2 => ∃ vr2 : Value, ∃ kr2 : Nat, r' = .bool true ∧ Lpr H2 lp r ∧ Var 28 H2 Bs [vr2] ∧ Ow kr2 30 H2 fA 32 vr2 (ss ++ [x]) ∧ Nx kr H.size kr2 ∧ Mo (Ms [lp + 1, Bs + 1, kr]) H H2) := by
  have hf7 := hr.fr.put (d := 7) rfl (vA x)
  refine YCt.of hl hr.st hr.pe hr.ps (hr.A.trans rfl) (hr.B.trans rfl) hf7 ?_
  have hlB : lp ≠ Bs := d1.ne
  refine LRI.z (Z.allocv rfl Try.zeroValue30) (by intro c e; cases e) (Wd.u rfl) rfl rfl (fun v5 H5 r5 => ?_)
  obtain ⟨rfl, vi, hs5, ob5, hH5⟩ := r5
  have hz5 : H5.size = H.size + 1 := by rw [hH5]; simp
  have hll := hl.lt; have hBl := hB.lt; have hol := ho.le
  have hm := (Mo.refl (S := Ms [lp + 1, Bs + 1, kr]) H).trN hs5
  replace hl := hl.nw hs5; replace hB := hB.nw hs5; replace ho := ho.nw hs5
  refine LRI.s (S.var vi (_) (fA x) rfl rfl rfl rfl (fA_one _) Try.sizeOf30 (fA_len _) (by decide) (splice_all2 (by first | exact (fA_len _).symm | rfl))) (by intro c e; cases e) (Wd.u rfl) rfl (fun H6 r6 => ?_)
  obtain ⟨vi, hs6⟩ := r6
  have hs6' := hs6.md1
  replace hm := hm.trL hs6' (MIL.cons (MI.new (Nat.le_refl _)) MIL.nil)
  replace hl := hl.upL hs6' (DL.cons (Dj.of (by omega)) DL.nil)
  replace hB := hB.upL hs6' (DL.cons (Dj.of (by omega)) DL.nil)
  replace ho := ho.upL hs6' (DL.cons (Dj.new hol) DL.nil)
  refine LRI.nil (fun a w hf ha => ⟨rfl, _, H6, hf, ha, hl, ?_⟩)
  have hz6 := hs6.size
  have hs7 : Mo (fun c => c = lp) H6 (H6.setIfInBounds lp (.loop { r with state := .busy })) := mo_set _
  have hl7 : Lpr (H6.setIfInBounds lp (.loop { r with state := .busy })) lp { r with state := .busy } := ⟨by simp [hl.lt]⟩
  obtain ⟨H7, hH7⟩ : ∃ H7, H7 = H6.setIfInBounds lp (.loop { r with state := .busy }) := ⟨_, rfl⟩
  rw [← hH7] at hs7 hl7 ⊢
  have hs7' := hs7.md1
  replace hm := hm.trL hs7' (MIL.cons (MI.root (by simp)) MIL.nil)
  replace hB := hB.upL hs7' (DL.cons (Dj.of (Ne.symm hlB)) DL.nil)
  replace ho := ho.upL hs7' (DL.cons d2.symm DL.nil)
  replace vi := vi.upL hs7' (DL.cons (Dj.of (by omega)) DL.nil)
  have hz7 := hs7.size
  refine LRI.v (Y.load1 hB.pt rfl Try.isAgg28 rfl) (by intro c e; cases e) (Wd.u rfl) rfl rfl ?_
  refine LRI.v (Y.loadN vi.pt rfl Try.isAgg30 Try.sizeOf30 (fA_len _) rfl) (by intro c e; cases e) (Wd.u rfl) rfl rfl ?_
  refine LRI.z (Z.litw _ ([x]) rfl inf28 rfl rfl rfl (by decide) (by decide) fA_len fA_one rfl) (by intro c e; cases e) (Wd.u rfl) rfl rfl (fun v10 H10 r10 => ?_)
  obtain ⟨ow10, hs10, ob10, hH10⟩ := r10
  have hz10 : H10.size = H7.size + 1 := by rw [hH10]; simp
  replace hm := hm.trN hs10
  replace hl7 := hl7.nw hs10; replace hB := hB.nw hs10; replace ho := ho.nw hs10
  have hd10 : Dj kr (H7.size + 1) := Dj.new (by omega)
  have hol10 := ho.le
  refine LRI.z (Z.apnd ho ow10.rd rfl inf28 rfl rfl (by simp; omega) (by simp; omega)) (by intro c e; cases e) (Wd.u rfl) rfl rfl (fun v11 H11 r11 => ?_)
  obtain ⟨k11, ow11, hk11, hs11⟩ := r11
  replace hk11 : Nx kr H10.size k11 := hk11
  have hs11' := hs11.md
  replace hm := hm.trL hs11' (MIL.cons (MI.root (by simp)) MIL.nil)
  replace hl7 := hl7.upL hs11' (DL.cons d2 DL.nil)
  replace hB := hB.upL hs11' (DL.cons d3 DL.nil)
  have hz11 := hs11.size
  have dB : Dj (Bs + 1) k11 := Dj.app d3 (by omega) hk11
  have dl : Dj (lp + 1) k11 := Dj.app d2 (by omega) hk11
  obtain ⟨s11, hs11v⟩ : ∃ s : SV, v11 = s.v := ⟨toSV v11, ow11.sv.symm⟩
  refine LRI.s (S.var1 hB 0 ([v11]) rfl rfl rfl (by rw [hs11v]; rfl) Try.sizeOf28 (by simp) rfl) (by intro c e; cases e) (Wd.u rfl) rfl (fun H12 r12 => ?_)
  obtain ⟨hB, hs12⟩ := r12
  have hs12' := hs12.md1
  replace hm := hm.trL hs12' (MIL.cons (MI.root (by simp)) MIL.nil)
  replace hl7 := hl7.upL hs12' (DL.cons d1 DL.nil)
  replace ow11 := ow11.upL hs12' (DL.cons dB.symm DL.nil)
  have hz12 := hs12.size
  refine LRI.nil (fun a w hf ha => ⟨rfl, H12, ha, hl7, v11, k11, rfl, ?_, ?_, ?_, ?_, ?_⟩)
  · exact ⟨by simp [hl7.lt]⟩
  · exact hB.upL (Mo.md1 (mo_set (r := lp) _)) (DL.cons (Dj.of (Ne.symm hlB)) DL.nil)
  · exact ow11.upL (Mo.md1 (mo_set (r := lp) _)) (DL.cons dl.symm DL.nil)
  · unfold Nx at hk11 ⊢; omega
  · exact hm.trL (Mo.md1 (mo_set (r := lp) _)) (MIL.cons (MI.root (by simp)) MIL.nil)

theorem keys1_ct (r_ : Loop) (lp Bs bx mb D kr : Nat) (vr : Value) (mm : List (Ide × Int)) (w0 : World) (H0 : Heap)
    (hx : Var 72 H0 bx [.map (some mb)]) (hso : Mp H0 vA (Value.int .i64) mb mm) (hD : Dfr H0 D) (hl : Lpr H0 lp r_) (hB : Var 28 H0 Bs [vr]) (ow : Ow kr 30 H0 fA 32 vr []) (hr : ApR r_ Bs) (hmm : mm.length ≤ 5000) (d_hl_hB : Dj (lp + 1) (Bs + 1)) (d_hl_ow : Dj (lp + 1) (kr)) (d_hB_ow : Dj (Bs + 1) (kr)) (d_hx_hl : Dj (bx + 1) (lp + 1)) (d_hx_hB : Dj (bx + 1) (Bs + 1)) (d_hx_ow : Dj (bx + 1) (kr)) (d_hso_hl : Dj (mb + 1) (lp + 1)) (d_hso_hB : Dj (mb + 1) (Bs + 1)) (d_hso_ow : Dj (mb + 1) (kr)) (d_hD_hl : Dj (D + 1) (lp + 1)) (d_hD_hB : Dj (D + 1) (Bs + 1)) (d_hD_ow : Dj (D + 1) (kr)) :
    Ct Try.prog w0 42 #[.func (.yield lp) #[] #[], .pointer (some ⟨bx, 0, none⟩)] H0 (fun r H2 => ∃ vr2 : Value, ∃ kr2 : Nat, ∃ out : List Ide, r = .tuple #[] ∧ (Lpr H2 lp r_) ∧ (Var 28 H2 Bs [vr2]) ∧ (Ow kr2 30 H2 fA 32 vr2 out) ∧ (Nx kr H0.size kr2) ∧ (out.Nodup ∧ ∀ k, k ∈ out ↔ k ∈ mm.map (·.1)) ∧ Mo (Ms [(lp + 1), (Bs + 1), kr]) H0 H2) := by
  refine Ct.enter (args := [.func (.yield lp) #[] #[], .pointer (some ⟨bx, 0, none⟩)]) Try.func42 rfl rfl rfl ?_
  intro Q0 hret
  have hm0 : Mo (Ms [(lp + 1), (Bs + 1), kr]) H0 H0 := Mo.refl _ _
  have nx_hm0_hx := Nx.refl (bx + 1) H0.size
  have hlt_hx := hx.lt
  have nx_hm0_hso := Nx.refl (mb + 1) H0.size
  have hlt_hso := hso.lt
  have nx_hm0_hD := Nx.refl (D + 1) H0.size
  have hlt_hD := hD.lt
  have nx_hm0_hl := Nx.refl (lp + 1) H0.size
  have hlt_hl := hl.lt
  have nx_hm0_hB := Nx.refl (Bs + 1) H0.size
  have hlt_hB := hB.lt
  have nx_hm0_ow := Nx.refl kr H0.size
  have hle_ow := ow.le
  refine CW.seq (fun K1 hK1 hE1 => ?_)
  refine CW.region ?_
  refine LR.v (Y.load1 hx.pt rfl Try.isAgg72 rfl) (Wd.u rfl) rfl rfl ?_
  obtain ⟨es, ck, hso⟩ := hso.raw
  refine LR.z (Z.rangeA hso rfl Try.runUnderlying72 rfl) (Wd.u rfl) rfl rfl (fun v5 H5 r5 => ?_)
  obtain ⟨rfl, it, hs5, ob5, hH5⟩ := r5
  have hzs5 : H5.size = H0.size + 1 := by rw [hH5]; simp
  have dj1 : Dj (bx + 1) (H0.size + 1) := Dj.new hx.lt
  have dj2 : Dj (mb + 1) (H0.size + 1) := Dj.new hso.lt
  have dj3 : Dj (D + 1) (H0.size + 1) := Dj.new hD.lt
  have dj4 : Dj (lp + 1) (H0.size + 1) := Dj.new hl.lt
  have dj5 : Dj (Bs + 1) (H0.size + 1) := Dj.new hB.lt
  have dj6 : Dj kr (H0.size + 1) := Dj.new ow.le
  have nx7 : Nx 0 H0.size (H0.size + 1) := Nx.new hm0.size
  replace hx := hx.nw hs5
  replace hso := hso.nw hs5
  replace hD := hD.nw hs5
  replace hl := hl.nw hs5
  replace hB := hB.nw hs5
  replace ow := ow.nw hs5
  replace hm0 := hm0.trN hs5
  have hz1 := hs5.size
  have hlt_it := it.lt
  refine LR.nil ?_
  refine hK1 _ _ ?_
  refine CW.block (fun K2 hK2 hX2 hE2 => ?_)
  refine CW.loop (fun (s_ : (List Ide) × (Value) × (Nat)) => match s_ with | (dn, vr3, kr3) => [(0, .func (.yield lp) #[] #[]), (5, .pointer (some ⟨H0.size, 0, none⟩))])
    (fun (s_ : (List Ide) × (Value) × (Nat)) (H : Heap) => match s_ with | (dn, vr3, kr3) => (Itr H H0.size mb vA es ck dn) ∧ (Lpr H lp r_) ∧ (Var 28 H Bs [vr3]) ∧ (Ow kr3 30 H fA 32 vr3 dn) ∧ (dn.Nodup ∧ ∀ k ∈ dn, k ∈ mm.map (·.1)) ∧ (Nx kr H5.size kr3) ∧ (Dj (H0.size + 1) kr3) ∧ (Dj (lp + 1) kr3) ∧ (Dj (Bs + 1) kr3) ∧ Mo (Ms [(H0.size + 1), (lp + 1), (Bs + 1), kr]) H5 H)
    (fun (s_ : (List Ide) × (Value) × (Nat)) => match s_ with | (dn, vr3, kr3) => mm.length - dn.length) ([], vr, kr) ⟨rfl, rfl, trivial⟩ ?_ ?_
  ·
    exact ⟨it, hl, hB, ow, ⟨List.nodup_nil, by simp⟩, Nx.refl _ _, dj6.symm, d_hl_ow, d_hB_ow, Mo.refl _ _⟩
  rintro ⟨dn, vr3, kr3⟩ HL1 hI1 K3 hN3 hE3
  obtain ⟨it, hl, hB, ow, hdn, nxl_ow, dj_it_ow, dj_hl_ow, dj_hB_ow, hlm1⟩ := hI1
  have dj8 : Dj (bx + 1) kr3 := Dj.app (d_hx_ow) hx.lt nxl_ow
  have dj9 : Dj (mb + 1) kr3 := Dj.app (d_hso_ow) hso.lt nxl_ow
  have dj10 : Dj (D + 1) kr3 := Dj.app (d_hD_ow) hD.lt nxl_ow
  have nx11 : Nx kr H0.size kr3 := Nx.tr (nx_hm0_ow) nxl_ow hm0.size
  replace hx := hx.upL hlm1 (DL.cons dj1 (DL.cons d_hx_hl (DL.cons d_hx_hB (DL.cons d_hx_ow DL.nil))))
  replace hso := hso.upL hlm1 (DL.cons dj2 (DL.cons d_hso_hl (DL.cons d_hso_hB (DL.cons d_hso_ow DL.nil))))
  replace hD := hD.upL hlm1 (DL.cons dj3 (DL.cons d_hD_hl (DL.cons d_hD_hB (DL.cons d_hD_ow DL.nil))))
  replace hm0 := hm0.trL hlm1 (MIL.cons (MI.app MI.z (nx7) (Nat.le_refl _)) (MIL.cons (MI.app (MI.root (by simp)) (nx_hm0_hl) (Nat.le_refl _)) (MIL.cons (MI.app (MI.root (by simp)) (nx_hm0_hB) (Nat.le_refl _)) (MIL.cons (MI.app (MI.root (by simp)) (nx_hm0_ow) (Nat.le_refl _)) MIL.nil))))
  have hz2 := hlm1.size
  have hle_ow := ow.le
  have dj12 := dj_it_ow
  have dj13 := dj_hl_ow
  have dj14 := dj_hB_ow
  have nx_hlm1_it := Nx.refl (H0.size + 1) H5.size
  have nx_hlm1_hl := Nx.refl (lp + 1) H5.size
  have nx_hlm1_hB := Nx.refl (Bs + 1) H5.size
  have nx15 := nxl_ow
  have hdl := nodup_le hdn.1 hdn.2
  rw [List.length_map] at hdl
  refine CW.seq (fun K4 hK4 hE4 => ?_)
  refine CW.region ?_
  refine LR.z (Z.nextA it hso keyId.inj rfl rfl) (Wd.u rfl) rfl rfl (fun v6 H6 r6 => ?_)
  obtain ⟨qb, x, y, dn2, rfl, it, hT6, hF6, hs6⟩ := r6
  replace hs6 := hs6.md1
  replace hx := hx.upL hs6 (DL.cons dj1 DL.nil)
  replace hso := hso.upL hs6 (DL.cons dj2 DL.nil)
  replace hD := hD.upL hs6 (DL.cons dj3 DL.nil)
  replace ow := ow.upL hs6 (DL.cons dj12.symm DL.nil)
  replace hl := hl.upL hs6 (DL.cons dj4 DL.nil)
  replace hB := hB.upL hs6 (DL.cons dj5 DL.nil)
  replace hm0 := hm0.trL hs6 (MIL.cons (MI.app MI.z (nx7) (Nat.le_refl _)) MIL.nil)
  replace hlm1 := hlm1.trL hs6 (MIL.cons (MI.app (MI.root (by simp)) (nx_hlm1_it) (Nat.le_refl _)) MIL.nil)
  have hz3 := hs6.size
  refine LR.v (Y.ext0 rfl rfl) (Wd.u rfl) rfl rfl ?_
  refine LR.nil ?_
  refine hK4 _ _ ?_
  refine CW.seq (fun K5 hK5 hE5 => ?_)
  refine CW.cond rfl (fun c7 => ?_) (fun c7 => ?_)
  ·
    obtain ⟨hxy, hnd, hdq⟩ := hT6 c7
    rw [hdq] at it
    refine CW.skip ?_
    refine hK5 _ _ ?_
    refine CW.block (fun K6 hK6 hX6 hE6 => ?_)
    refine CW.seq (fun K7 hK7 hE7 => ?_)
    refine CW.region ?_
    refine LR.v (Y.entryA it hso keyId.inj hxy rfl rfl) (Wd.u rfl) rfl rfl ?_
    refine LR.v (Y.extract rfl rfl rfl) (Wd.u rfl) rfl rfl ?_
    refine LR.z (Z.allocv rfl Try.zeroValue30) (Wd.u rfl) rfl rfl (fun v3 H3 r3 => ?_)
    obtain ⟨rfl, vi, hs3, ob3, hH3⟩ := r3
    have hzs3 : H3.size = H6.size + 1 := by rw [hH3]; simp
    have dj16 : Dj (bx + 1) (H6.size + 1) := Dj.new hx.lt
    have dj17 : Dj (mb + 1) (H6.size + 1) := Dj.new hso.lt
    have dj18 : Dj (D + 1) (H6.size + 1) := Dj.new hD.lt
    have dj19 : Dj kr3 (H6.size + 1) := Dj.new ow.le
    have dj20 : Dj (H0.size + 1) (H6.size + 1) := Dj.new it.lt
    have dj21 : Dj (lp + 1) (H6.size + 1) := Dj.new hl.lt
    have dj22 : Dj (Bs + 1) (H6.size + 1) := Dj.new hB.lt
    have nx23 : Nx 0 H0.size (H6.size + 1) := Nx.new hm0.size
    have nx24 : Nx 0 H5.size (H6.size + 1) := Nx.new hlm1.size
    replace hx := hx.nw hs3
    replace hso := hso.nw hs3
    replace hD := hD.nw hs3
    replace ow := ow.nw hs3
    replace it := it.nw hs3
    replace hl := hl.nw hs3
    replace hB := hB.nw hs3
    replace hm0 := hm0.trN hs3
    replace hlm1 := hlm1.trN hs3
    have hz4 := hs3.size
    replace vi : Var 30 H3 H6.size (fA Zid) := vi
    refine LR.s (S.var vi (_) (fA (x)) rfl rfl rfl rfl (fA_one _) Try.sizeOf30 (fA_len _) (by first | decide | simp [fA_len]) ((splice_all2 (by first | exact (fA_len _).symm | rfl | exact (fA_len _).trans (fA_len _).symm)))) (Wd.u rfl) rfl (fun H2_3 r2_3 => ?_)
    obtain ⟨vi, hs2_3⟩ := r2_3
    replace hs2_3 := hs2_3.md1
    replace hx := hx.upL hs2_3 (DL.cons dj16 DL.nil)
    replace hso := hso.upL hs2_3 (DL.cons dj17 DL.nil)
    replace hD := hD.upL hs2_3 (DL.cons dj18 DL.nil)
    replace ow := ow.upL hs2_3 (DL.cons dj19 DL.nil)
    replace it := it.upL hs2_3 (DL.cons dj20 DL.nil)
    replace hl := hl.upL hs2_3 (DL.cons dj21 DL.nil)
    replace hB := hB.upL hs2_3 (DL.cons dj22 DL.nil)
    replace hm0 := hm0.trL hs2_3 (MIL.cons (MI.app MI.z (nx23) (Nat.le_refl _)) MIL.nil)
    replace hlm1 := hlm1.trL hs2_3 (MIL.cons (MI.app MI.z (nx24) (Nat.le_refl _)) MIL.nil)
    have hz5 := hs2_3.size
    refine LR.nil ?_
    refine hK7 _ _ ?_
    refine CW.seq (fun K8 hK8 hE8 => ?_)
    refine CW.region_in ?_
    refine LRI.v (Y.move rfl rfl) (by intro c e; cases e) (Wd.u rfl) rfl rfl ?_
    refine LRI.v (Y.loadN vi.pt rfl Try.isAgg30 Try.sizeOf30 (fA_len _) rfl) (by intro c e; cases e) (Wd.u rfl) rfl rfl ?_
    refine LRI.round rfl rfl rfl (Wd.u rfl) rfl rfl (ap_round r_ Bs lp _ _ dn x w0 _ hr hl hB ow (d_hl_hB) (dj13) (dj14) (by omega)) (fun v12 H12 r12 => ?_)
    have ql25 := hx.lt
    have ql26 := hso.lt
    have ql27 := hD.lt
    have ql28 := ow.le
    have ql29 := it.lt
    have ql30 := hl.lt
    have ql31 := hB.lt
    have ql32 := vi.lt
    obtain ⟨vr12, kr12, rfl, hl, hB, ow, hk12, hs12⟩ := r12
    have dj33 : Dj (bx + 1) kr12 := Dj.app (dj8) ql25 hk12
    have dj34 : Dj (mb + 1) kr12 := Dj.app (dj9) ql26 hk12
    have dj35 : Dj (D + 1) kr12 := Dj.app (dj10) ql27 hk12
    have dj36 : Dj (H0.size + 1) kr12 := Dj.app (dj12) ql29 hk12
    have dj37 : Dj (lp + 1) kr12 := Dj.app (dj13) ql30 hk12
    have dj38 : Dj (Bs + 1) kr12 := Dj.app (dj14) ql31 hk12
    have dj39 : Dj (H6.size + 1) kr12 := Dj.app (dj19.symm) ql32 hk12
    have nx40 : Nx kr H0.size kr12 := Nx.tr (nx11) hk12 hm0.size
    have nx41 : Nx kr H5.size kr12 := Nx.tr (nx15) hk12 hlm1.size
    replace hx := hx.upL hs12 (DL.cons d_hx_hl (DL.cons d_hx_hB (DL.cons dj8 DL.nil)))
    replace hso := hso.upL hs12 (DL.cons d_hso_hl (DL.cons d_hso_hB (DL.cons dj9 DL.nil)))
    replace hD := hD.upL hs12 (DL.cons d_hD_hl (DL.cons d_hD_hB (DL.cons dj10 DL.nil)))
    replace it := it.upL hs12 (DL.cons dj4.symm (DL.cons dj5.symm (DL.cons dj12 DL.nil)))
    replace vi := vi.upL hs12 (DL.cons dj21.symm (DL.cons dj22.symm (DL.cons dj19.symm DL.nil)))
    replace hm0 := hm0.trL hs12 (MIL.cons (MI.app (MI.root (by simp)) (nx_hm0_hl) (Nat.le_refl _)) (MIL.cons (MI.app (MI.root (by simp)) (nx_hm0_hB) (Nat.le_refl _)) (MIL.cons (MI.app (MI.root (by simp)) (nx11) (Nat.le_refl _)) MIL.nil)))
    replace hlm1 := hlm1.trL hs12 (MIL.cons (MI.app (MI.root (by simp)) (nx_hlm1_hl) (Nat.le_refl _)) (MIL.cons (MI.app (MI.root (by simp)) (nx_hlm1_hB) (Nat.le_refl _)) (MIL.cons (MI.app (MI.root (by simp)) (nx15) (Nat.le_refl _)) MIL.nil)))
    have hz6 := hs12.size
    have hle_ow := ow.le
    refine LRI.v (Y.not rfl rfl) (by intro c e; cases e) (Wd.u rfl) rfl rfl ?_
    refine LRI.nil ?_
    refine hK8 _ _ ?_
    refine CW.cond_f rfl ?_
    refine CW.skip ?_
    refine hK6 _ _ ?_
    have hdn2 : (dn ++ [x]).Nodup ∧ ∀ k ∈ dn ++ [x], k ∈ mm.map (·.1) := by
      refine ⟨?_, fun k hk => ?_⟩
      · rw [List.nodup_append]
        exact ⟨hdn.1, by simp, fun a ha b hb e => by simp only [List.mem_singleton] at hb; subst hb; subst e; exact hnd ha⟩
      · rcases List.mem_append.1 hk with hk | hk
        · exact hdn.2 k hk
        · rw [List.mem_singleton.1 hk]; exact List.mem_map.2 ⟨_, hxy, rfl⟩
    have hdl2 := nodup_le hdn2.1 hdn2.2
    rw [List.length_append, List.length_map, List.length_singleton] at hdl2
    refine QN.sub (hN3 (dn ++ [x], vr12, kr12) _ ?_ ?_) ⟨rfl, rfl, trivial⟩
    · exact ⟨it, hl, hB, ow, hdn2, nx41, dj36, dj37, dj38, hlm1⟩
    · simp <;> omega
  ·
    obtain ⟨hall, hdq⟩ := hF6 c7
    refine CW.exit (hE5 (.exit 0) nofun _ _ (hE3 (.exit 0) nofun _ _ (hX2 _ _ ?_)))
    refine hret .normal (.inl rfl) _ _ _ (res0 rfl) ?_
    exact ⟨vr3, kr3, dn, rfl, hl, hB, ow, nx11, ⟨hdn.1, fun k => ⟨hdn.2 k, fun h => by obtain ⟨p, hp, rfl⟩ := List.mem_map.1 h; exact hall p hp⟩⟩, hm0⟩

end Go.Proofs.Ytepdhokpfecdnaa.GraK
/-
  The keys of a map, collected into a row of one's own, and sorted.
-/
namespace Go.Proofs.Ytepdhokpfecdnaa.GraL
open Go.Proofs.Ytepdhokpfecdnaa.E Go.RowKit Go.Proofs.Ytepdhokpfecdnaa.GraA Go.Proofs.Ytepdhokpfecdnaa.GraB Go.Proofs.Ytepdhokpfecdnaa.GraC Go.Proofs.Ytepdhokpfecdnaa.GraD Go.Proofs.Ytepdhokpfecdnaa.GraE Go.Proofs.Ytepdhokpfecdnaa.GraF Go.Proofs.Ytepdhokpfecdnaa.GraG Go.Proofs.Ytepdhokpfecdnaa.GraH Go.Proofs.Ytepdhokpfecdnaa.GraI Go.Proofs.Ytepdhokpfecdnaa.GraJ Go.Proofs.Ytepdhokpfecdnaa.GraK
set_option maxRecDepth 20000
set_option linter.unusedVariables false
set_option linter.unusedSimpArgs false
set_option linter.unusedSectionVars false

theorem Fr.start {n : Nat} {args : List Value} (hk : args.length ≤ n) : Fr n (argL args 0) { tmps := args.toArray ++ Array.replicate (n - args.toArray.size) undef, defers := [] } := by
  refine ⟨rfl, ?_, ?_⟩
  · simp; omega
  · intro t v e
    obtain ⟨_, h2⟩ := argL_get args 0 t v e
    simp only [Nat.sub_zero] at h2
    simp only
    have hlt := (List.getElem?_eq_some_iff.1 h2).1
    rw [Array.getElem?_append_left (by simpa using hlt)]
    simpa using h2
theorem LRD.v {P : Program} {w0 : World} {Q : Exit → Act → World → Prop} {n : Nat} {l : FL} {H : Heap} {ops : Array Oper} {rest : List Oper} {o : Oper} {ds : List Deferred} {v : Value} {d : Nat} (hy : Y P w0 n l H o v) (hnd : ∀ c, o.op ≠ .defer c) (hw : Wd ops l o) (hd : o.dst = some d) (hn : Nat.blt d n = true)
    (h : ∀ a w, Fr n ((d, v) :: l) a → At w0 H w → wpListIn (FW none) 0 P ops Q rest { a with defers := ds } w) : ∀ a w, Fr n l a → At w0 H w → wpListIn (FW none) 0 P ops Q (o :: rest) { a with defers := ds } w := by
  intro a w hf ha
  have hp := hf.put hn v
  rw [← hd] at hp
  unfold wpListIn
  rw [if_pos (hw n a hf)]
  refine ⟨fun _ _ => trivial, ?_⟩
  rw [Oper.semAt_eq _ _ _ hnd]
  show Oper.uponIn _ _ _ _ _ _ _ ((execOp a.eval o).run P w)
  rw [hy a w hf ha, Oper.uponIn_value]
  have h2 := h _ w hp ha
  have e : ({ a with defers := ds } : Act).put o.dst v = { (a.put o.dst v) with defers := ds } := by rw [hd]; rfl
  rw [e]; exact h2
theorem append_ct (bx mb : Nat) (mm : List (Ide × Int)) (w0 : World) (H0 : Heap) (hx : Var 72 H0 bx [.map (some mb)]) (hso : Mp H0 vA (Value.int .i64) mb mm) (hmm : mm.length ≤ 5000) :
    Ct Try.prog w0 51 #[.slice none 0 0, .func (.func 42) #[] #[.pointer (some ⟨bx, 0, none⟩)]] H0 (fun r H2 => ∃ s : SV, ∃ k : Nat, ∃ out : List Ide, r = s.v ∧ (Ow k 30 H2 fA 32 s.v out) ∧ (Nx 0 H0.size k) ∧ (out.Nodup ∧ ∀ k, k ∈ out ↔ k ∈ mm.map (·.1)) ∧ Nw H0 H2) := by
  intro w ha
  refine callsIn_wide.1 (callsIn_of_wp_marks (n := 0) Try.func51 rfl trivial ?_)
  have hf0 := Fr.start (n := Try.f51.ntmps) (args := [.slice none 0 0, .func (.func 42) #[] #[.pointer (some ⟨bx, 0, none⟩)]]) (Nat.le_of_ble_eq_true rfl)
  refine wpIn_seq (wpIn_wide.2 ?_)
  refine (CW.region (w0 := w0) (H := H0) (n := Try.f51.ntmps) (l := argL [.slice none 0 0, .func (.func 42) #[] #[.pointer (some ⟨bx, 0, none⟩)]] 0) ?_) _ w hf0 ha
  refine LR.z (Z.boxv1 rfl rfl rfl) (Wd.u rfl) rfl rfl (fun v2 H1 r2 => ?_)
  obtain ⟨rfl, hB, hs1, ob1, hH1⟩ := r2
  have hz1 : H1.size = H0.size + 1 := by rw [hH1]; simp
  have hxl := hx.lt; have hsl := hso.lt
  replace hx := hx.nw hs1; replace hso := hso.nw hs1
  refine LR.v (Y.assign rfl rfl) (Wd.u rfl) rfl rfl ?_
  refine LR.nil (fun a1 w1 hf1 ha1 => ?_)
  show (Code.seq _ _).wpIn Fence.wide 0 _ _ a1 w1
  refine wpIn_seq (wpIn_seq (wpIn_wide.2 ?_))
  refine (CW.region (w0 := w0) (H := H1) ?_) a1 w1 hf1 ha1
  refine LR.v (Y.move rfl rfl) (Wd.u rfl) rfl rfl ?_
  refine LR.nil (fun a2 w2 hf2 ha2 => ?_)
  show (Code.block _ _).wpIn Fence.wide 0 _ _ a2 w2
  refine wpIn_block (wpIn_rangeFunc (fun fn _ => ?_))
  obtain ⟨rc, hrc⟩ : ∃ rc : Loop, rc = { state := .ready, pending := none, fn, tmps := a2.tmps, params := #[7], assign := asOf (rfOf (Try.f51.body.getD .skip)), body := boOf (rfOf (Try.f51.body.getD .skip)), defers := w2.heap.size } := ⟨_, rfl⟩
  have hst : (Instr.enterLoop fn a2.tmps #[7] (asOf (rfOf (Try.f51.body.getD .skip))) (boOf (rfOf (Try.f51.body.getD .skip))) none).run Try.prog w2 = .ok (w2.heap.size + 1, [{ target := .collected w2.heap.size, args := #[] }]) ((w2.alloc (.deferred (some []))).alloc (.loop rc)) := by
    rw [hrc]; exact run_enterLoop_outer fn a2.tmps #[7] _ _
  have ha3 : At w0 ((H1.push (.deferred (some []))).push (.loop rc)) ((w2.alloc (.deferred (some []))).alloc (.loop rc)) := (ha2.alloc _).alloc _
  obtain ⟨w3, hw3⟩ : ∃ w3, w3 = (w2.alloc (.deferred (some []))).alloc (.loop rc) := ⟨_, rfl⟩
  rw [← hw3] at hst ha3
  obtain ⟨H3, hH3⟩ : ∃ H3, H3 = (H1.push (.deferred (some []))).push (.loop rc) := ⟨_, rfl⟩
  rw [← hH3] at ha3
  have hz3 : H3.size = H1.size + 2 := by rw [hH3]; simp
  have hw2 : w2.heap.size = H1.size := by rw [ha2.heap]
  have hs3 : Nw H1 H3 := by rw [hH3]; exact (Nw.pu _ _).tr (Nw.pu _ _)
  replace hx := hx.nw hs3; replace hso := hso.nw hs3; replace hB := hB.nw hs3
  have hD : Dfr H3 H1.size := ⟨by rw [hH3, Array.getElem?_push, if_neg (by simp)]; exact Array.getElem?_push_size⟩
  have hl : Lpr H3 (H1.size + 1) rc := ⟨by
    have h9 := Array.getElem?_push_size (xs := H1.push (.deferred (some []))) (x := Obj.loop rc)
    rw [Array.size_push, ← hH3] at h9
    exact h9⟩
  have hap : ApR rc H0.size := by
    subst hrc
    exact ⟨rfl, rfl, rfl, rfl, rfl, ⟨rfl, hf2.size, fun t v e => (hf2.sub (l' := [(2, .pointer (some ⟨H0.size, 0, none⟩))]) ⟨rfl, trivial⟩).get t v e⟩⟩
  have hyi : ∀ w, (callFunc 42 #[.func (.yield (H1.size + 1)) #[] #[], .pointer (some ⟨bx, 0, none⟩)]).run Try.prog w = .ok (.enter 42 #[.func (.yield (H1.size + 1)) #[] #[], .pointer (some ⟨bx, 0, none⟩)]) w := fun w => enters_of Try.func42 (by kernel_rfl) rfl _ w
  refine ⟨w2.heap.size + 1, [{ target := .collected w2.heap.size, args := #[] }], w3, { target := .fn (.func 42) #[.pointer (some ⟨bx, 0, none⟩)], args := #[.func (.yield (H1.size + 1)) #[] #[]] }, w3, 42, #[.func (.yield (H1.size + 1)) #[] #[], .pointer (some ⟨bx, 0, none⟩)], w3, hst, ?_, fun _ _ => trivial, ?_, fun h => (by cases h), ?_⟩
  · have h6 := hf2.get 6 (.func (.func 42) #[] #[.pointer (some ⟨bx, 0, none⟩)]) rfl
    rw [hw2]
    simp [resolve, rangeCall, Deferred.ofValue, Act.eval, h6]
  · exact hyi _
  refine callsIn_wide.2 ((keys1_ct rc (H1.size + 1) H0.size bx mb H1.size 0 (.slice none 0 0) mm w0 H3 hx hso hD hl hB (Ow.nil fA_len fA_one) hap hmm (Dj.of (by omega)) Dj.z Dj.z (Dj.of (by omega)) (Dj.of (by omega)) Dj.z (Dj.of (by omega)) (Dj.of (by omega)) Dj.z (Dj.of (by omega)) (Dj.of (by omega)) Dj.z _ ha3).mono ?_)
  rintro e w4 ⟨r4, H4, rfl, ha4, vr2, k2, out, rfl, hl4, hB4, ow4, hk4, hout, hm4⟩
  have hD4 : Dfr H4 H1.size := hD.upL hm4 (DL.cons (Dj.of (by omega)) (DL.cons (Dj.of (by omega)) (DL.cons Dj.z DL.nil)))
  have hlw : w4.heap[w2.heap.size + 1]? = some (.loop rc) := by rw [ha4.heap, hw2]; exact hl4.at_
  have hrp : rc.pending = none := hap.pe
  have hend := run_endLoop (P := Try.prog) hlw (by rw [hap.st]; simp)
  rw [hrp] at hend
  refine ⟨none, _, hend, ?_⟩
  have hs5 : Mo (fun c => c = H1.size + 1) H4 (H4.setIfInBounds (H1.size + 1) (.loop { rc with state := .exhausted })) := mo_set _
  have ha5 : At w0 (H4.setIfInBounds (H1.size + 1) (.loop { rc with state := .exhausted })) (w4.putObj (w2.heap.size + 1) (.loop { rc with state := .exhausted })) := by
    unfold World.putObj
    rw [ha4.heap, hw2]
    exact ha4.set
  rw [hrp] at hs5 ha5
  obtain ⟨w5, hw5⟩ : ∃ w5, w5 = w4.putObj (w2.heap.size + 1) (.loop { rc with state := .exhausted, pending := none }) := ⟨_, rfl⟩
  obtain ⟨H5, hH5⟩ : ∃ H5, H5 = H4.setIfInBounds (H1.size + 1) (.loop { rc with state := .exhausted, pending := none }) := ⟨_, rfl⟩
  rw [← hw5] at ha5
  rw [← hH5] at hs5 ha5
  rw [← hw5]
  have hz4 := hm4.size
  have hz5 := hs5.size
  have hs5' := hs5.md1
  have dk : ∀ c, c + 1 ≤ H3.size → Dj k2 (c + 1) := fun c hc q h1 h2 => by unfold Nx at hk4; omega
  replace hB4 := hB4.upL hs5' (DL.cons (Dj.of (by omega)) DL.nil)
  replace ow4 := ow4.upL hs5' (DL.cons (dk _ (by omega)) DL.nil)
  replace hD4 := hD4.upL hs5' (DL.cons (Dj.of (by omega)) DL.nil)
  have hm0 : Mo (Ms []) H0 H5 := by
    have q0 := ((Mo.refl (S := Ms []) H0).trN hs1).trN hs3
    have q1 := q0.trL hm4 (MIL.cons (MI.new (by omega)) (MIL.cons (MI.new (Nat.le_refl _)) (MIL.cons MI.z MIL.nil)))
    exact q1.trL hs5' (MIL.cons (MI.new (by omega)) MIL.nil)
  show (Code.seq _ _).wpIn Fence.wide 0 _ _ _ w5
  refine wpIn_seq (wpIn_region_lit ?_)
  refine LRD.v (w0 := w0) (H := H5) (Y.load1 hB4.pt rfl Try.isAgg28 rfl) (by intro c e; cases e) (Wd.u rfl) rfl rfl ?_ a2 w5 hf2 ha5
  refine LRD.v (w0 := w0) (H := H5) (Y.assign rfl rfl) (by intro c e; cases e) (Wd.u rfl) rfl rfl ?_
  intro a6 w6 hf6 ha6
  show Code.ret.wpIn Fence.wide 0 _ _ _ w6
  refine wpIn_ret ?_
  show LeavesInM Fence.wide 0 _ _ a6.tmps _ ([{ target := .collected w2.heap.size, args := #[] }] ++ a2.defers) .returning w6
  rw [hf2.defers, List.append_nil]
  have hDw : w6.heap[w2.heap.size]? = some (.deferred (some [])) := by rw [ha6.heap, hw2]; exact hD4.at_
  refine ⟨by simp, .inl ⟨_, _, rfl, run_takeDeferred (P := Try.prog) hDw, ?_⟩⟩
  have hs7 : Mo (fun c => c = H1.size) H5 (H5.setIfInBounds H1.size (.deferred none)) := mo_set _
  have ha7 : At w0 (H5.setIfInBounds H1.size (.deferred none)) (w6.putObj w2.heap.size (.deferred none)) := by
    unfold World.putObj
    rw [ha6.heap, hw2]
    exact ha6.set
  have hs7' := hs7.md1
  obtain ⟨s, hs⟩ : ∃ s : SV, vr2 = s.v := ⟨toSV vr2, ow4.sv.symm⟩
  refine ⟨vr2, res1 rfl rfl _ _ hf6 ha7, vr2, _, rfl, ha7, s, k2, out, hs, ?_, ?_, hout, ?_⟩
  · rw [← hs]; exact ow4.upL hs7' (DL.cons (dk _ (by omega)) DL.nil)
  · unfold Nx at hk4 ⊢; omega
  · exact (hm0.trL hs7' (MIL.cons (MI.new (by omega)) MIL.nil)).nil

end Go.Proofs.Ytepdhokpfecdnaa.GraL
