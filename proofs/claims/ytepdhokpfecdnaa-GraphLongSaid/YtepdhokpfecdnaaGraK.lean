/-
  The keys of a map, collected and sorted.
-/
import Derived.Test.YtepdhokpfecdnaaGraJ
import Derived.Test.YtepdhokpfecdnaaRf
namespace Go.Proofs.Ytepdhokpfecdnaa.GraK
open Go.Proofs.Ytepdhokpfecdnaa.E Go.RowKit Go.Proofs.Ytepdhokpfecdnaa.GraA Go.Proofs.Ytepdhokpfecdnaa.GraB Go.Proofs.Ytepdhokpfecdnaa.GraC Go.Proofs.Ytepdhokpfecdnaa.GraD Go.Proofs.Ytepdhokpfecdnaa.GraE Go.Proofs.Ytepdhokpfecdnaa.GraF Go.Proofs.Ytepdhokpfecdnaa.GraG Go.Proofs.Ytepdhokpfecdnaa.GraH Go.Proofs.Ytepdhokpfecdnaa.GraI Go.Proofs.Ytepdhokpfecdnaa.GraJ
set_option maxRecDepth 20000
set_option linter.unusedVariables false
set_option linter.unusedSimpArgs false
set_option linter.unusedSectionVars false
set_option maxRecDepth 100000 in
theorem inf28 : Inf Try.prog 28 30 32 32 := ⟨Try.underlying28, _, _, rfl, rfl, rfl, rfl, rfl⟩

def rfOf : Code → Code
  | .seq _ (.seq (.seq _ (.block _ c)) _) => c
  | _ => .skip
def asOf : Code → Code
  | .rangeFunc _ _ c _ => c
  | _ => .skip
def boOf : Code → Code
  | .rangeFunc _ _ _ c => c
  | _ => .skip
/-- the loop's record -/
structure ApR (r : Loop) (Bs : Nat) : Prop where
  st : r.state = .ready
  pe : r.pending = none
  ps : r.params = #[7]
  A : r.assign = asOf (rfOf (Try.f51.body.getD .skip))
  B : r.body = boOf (rfOf (Try.f51.body.getD .skip))
  fr : Fr Try.f51.ntmps [(2, .pointer (some ⟨Bs, 0, none⟩))] { tmps := r.tmps, defers := [] }
theorem ap_round (r : Loop) (Bs lp kr : Nat) (vr : Value) (ss : List Ide) (x : Ide) (w0 : World) (H : Heap) (hr : ApR r Bs) (hl : Lpr H lp r) (hB : Var 28 H Bs [vr]) (ho : Ow kr 30 H fA 32 vr ss) (d1 : Dj (lp + 1) (Bs + 1)) (d2 : Dj (lp + 1) kr) (d3 : Dj (Bs + 1) kr) (hlen : ss.length ≤ 5000) :
    YCt Try.prog w0 lp [vA x] H (fun r' H2 => ∃ vr2 : Value, ∃ kr2 : Nat, r' = .bool true ∧ Lpr H2 lp r ∧ Var 28 H2 Bs [vr2] ∧ Ow kr2 30 H2 fA 32 vr2 (ss ++ [x]) ∧ Nx kr H.size kr2 ∧ Mo (Ms [lp + 1, Bs + 1, kr]) H H2) := by
  have hf7 := hr.fr.put (d := 7) rfl (vA x)
  refine YCt.of hl hr.st hr.pe hr.ps (hr.A.trans rfl) (hr.B.trans rfl) hf7 ?_
  have hlB : lp ≠ Bs := d1.ne
  refine LRI.z (Z.allocv rfl Try.zeroValue30) (by intro c e; cases e) (Wd.u rfl) rfl rfl (fun v5 H5 r5 => ?_)
  obtain ⟨rfl, vi, hs5, ob5, hH5⟩ := r5
  have hz5 : H5.size = H.size + 1 := by rw [hH5]; simp
  have hll := hl.lt; have hBl := hB.lt; have hol := ho.le
  have hm := (Mo.refl (S := Ms [lp + 1, Bs + 1, kr]) H).trN hs5
  replace hl := hl.nw hs5; replace hB := hB.nw hs5; replace ho := ho.nw hs5
  refine LRI.s (S.var vi (_) (fA x) rfl rfl rfl rfl (fA_one _) Try.sizeOf30 (fA_len _) (by decide) (splice_all2 (by first | exact (fA_len _).symm | rfl))) (by intro c e; cases e) (Wd.u rfl) rfl (fun H6 r6 => ?_)
  obtain ⟨vi, hs6⟩ := r6
  have hs6' := hs6.md1
  replace hm := hm.trL hs6' (MIL.cons (MI.new (Nat.le_refl _)) MIL.nil)
  replace hl := hl.upL hs6' (DL.cons (Dj.of (by omega)) DL.nil)
  replace hB := hB.upL hs6' (DL.cons (Dj.of (by omega)) DL.nil)
  replace ho := ho.upL hs6' (DL.cons (Dj.new hol) DL.nil)
  refine LRI.nil (fun a w hf ha => ⟨rfl, _, H6, hf, ha, hl, ?_⟩)
  have hz6 := hs6.size
  have hs7 : Mo (fun c => c = lp) H6 (H6.setIfInBounds lp (.loop { r with state := .busy })) := mo_set _
  have hl7 : Lpr (H6.setIfInBounds lp (.loop { r with state := .busy })) lp { r with state := .busy } := ⟨by simp [hl.lt]⟩
  obtain ⟨H7, hH7⟩ : ∃ H7, H7 = H6.setIfInBounds lp (.loop { r with state := .busy }) := ⟨_, rfl⟩
  rw [← hH7] at hs7 hl7 ⊢
  have hs7' := hs7.md1
  replace hm := hm.trL hs7' (MIL.cons (MI.root (by simp)) MIL.nil)
  replace hB := hB.upL hs7' (DL.cons (Dj.of (Ne.symm hlB)) DL.nil)
  replace ho := ho.upL hs7' (DL.cons d2.symm DL.nil)
  replace vi := vi.upL hs7' (DL.cons (Dj.of (by omega)) DL.nil)
  have hz7 := hs7.size
  refine LRI.v (Y.load1 hB.pt rfl Try.isAgg28 rfl) (by intro c e; cases e) (Wd.u rfl) rfl rfl ?_
  refine LRI.v (Y.loadN vi.pt rfl Try.isAgg30 Try.sizeOf30 (fA_len _) rfl) (by intro c e; cases e) (Wd.u rfl) rfl rfl ?_
  refine LRI.z (Z.litw _ ([x]) rfl inf28 rfl rfl rfl (by decide) (by decide) fA_len fA_one rfl) (by intro c e; cases e) (Wd.u rfl) rfl rfl (fun v10 H10 r10 => ?_)
  obtain ⟨ow10, hs10, ob10, hH10⟩ := r10
  have hz10 : H10.size = H7.size + 1 := by rw [hH10]; simp
  replace hm := hm.trN hs10
  replace hl7 := hl7.nw hs10; replace hB := hB.nw hs10; replace ho := ho.nw hs10
  have hd10 : Dj kr (H7.size + 1) := Dj.new (by omega)
  have hol10 := ho.le
  refine LRI.z (Z.apnd ho ow10.rd rfl inf28 rfl rfl (by simp; omega) (by simp; omega)) (by intro c e; cases e) (Wd.u rfl) rfl rfl (fun v11 H11 r11 => ?_)
  obtain ⟨k11, ow11, hk11, hs11⟩ := r11
  replace hk11 : Nx kr H10.size k11 := hk11
  have hs11' := hs11.md
  replace hm := hm.trL hs11' (MIL.cons (MI.root (by simp)) MIL.nil)
  replace hl7 := hl7.upL hs11' (DL.cons d2 DL.nil)
  replace hB := hB.upL hs11' (DL.cons d3 DL.nil)
  have hz11 := hs11.size
  have dB : Dj (Bs + 1) k11 := Dj.app d3 (by omega) hk11
  have dl : Dj (lp + 1) k11 := Dj.app d2 (by omega) hk11
  obtain ⟨s11, hs11v⟩ : ∃ s : SV, v11 = s.v := ⟨toSV v11, ow11.sv.symm⟩
  refine LRI.s (S.var1 hB 0 ([v11]) rfl rfl rfl (by rw [hs11v]; rfl) Try.sizeOf28 (by simp) rfl) (by intro c e; cases e) (Wd.u rfl) rfl (fun H12 r12 => ?_)
  obtain ⟨hB, hs12⟩ := r12
  have hs12' := hs12.md1
  replace hm := hm.trL hs12' (MIL.cons (MI.root (by simp)) MIL.nil)
  replace hl7 := hl7.upL hs12' (DL.cons d1 DL.nil)
  replace ow11 := ow11.upL hs12' (DL.cons dB.symm DL.nil)
  have hz12 := hs12.size
  refine LRI.nil (fun a w hf ha => ⟨rfl, H12, ha, hl7, v11, k11, rfl, ?_, ?_, ?_, ?_, ?_⟩)
  · exact ⟨by simp [hl7.lt]⟩
  · exact hB.upL (Mo.md1 (mo_set (r := lp) _)) (DL.cons (Dj.of (Ne.symm hlB)) DL.nil)
  · exact ow11.upL (Mo.md1 (mo_set (r := lp) _)) (DL.cons dl.symm DL.nil)
  · unfold Nx at hk11 ⊢; omega
  · exact hm.trL (Mo.md1 (mo_set (r := lp) _)) (MIL.cons (MI.root (by simp)) MIL.nil)

theorem keys1_ct (r_ : Loop) (lp Bs bx mb D kr : Nat) (vr : Value) (mm : List (Ide × Int)) (w0 : World) (H0 : Heap)
    (hx : Var 72 H0 bx [.map (some mb)]) (hso : Mp H0 vA (Value.int .i64) mb mm) (hD : Dfr H0 D) (hl : Lpr H0 lp r_) (hB : Var 28 H0 Bs [vr]) (ow : Ow kr 30 H0 fA 32 vr []) (hr : ApR r_ Bs) (hmm : mm.length ≤ 5000) (d_hl_hB : Dj (lp + 1) (Bs + 1)) (d_hl_ow : Dj (lp + 1) (kr)) (d_hB_ow : Dj (Bs + 1) (kr)) (d_hx_hl : Dj (bx + 1) (lp + 1)) (d_hx_hB : Dj (bx + 1) (Bs + 1)) (d_hx_ow : Dj (bx + 1) (kr)) (d_hso_hl : Dj (mb + 1) (lp + 1)) (d_hso_hB : Dj (mb + 1) (Bs + 1)) (d_hso_ow : Dj (mb + 1) (kr)) (d_hD_hl : Dj (D + 1) (lp + 1)) (d_hD_hB : Dj (D + 1) (Bs + 1)) (d_hD_ow : Dj (D + 1) (kr)) :
    Ct Try.prog w0 42 #[.func (.yield lp) #[] #[], .pointer (some ⟨bx, 0, none⟩)] H0 (fun r H2 => ∃ vr2 : Value, ∃ kr2 : Nat, ∃ out : List Ide, r = .tuple #[] ∧ (Lpr H2 lp r_) ∧ (Var 28 H2 Bs [vr2]) ∧ (Ow kr2 30 H2 fA 32 vr2 out) ∧ (Nx kr H0.size kr2) ∧ (out.Nodup ∧ ∀ k, k ∈ out ↔ k ∈ mm.map (·.1)) ∧ Mo (Ms [(lp + 1), (Bs + 1), kr]) H0 H2) := by
  refine Ct.enter (args := [.func (.yield lp) #[] #[], .pointer (some ⟨bx, 0, none⟩)]) Try.func42 rfl rfl rfl ?_
  intro Q0 hret
  have hm0 : Mo (Ms [(lp + 1), (Bs + 1), kr]) H0 H0 := Mo.refl _ _
  have nx_hm0_hx := Nx.refl (bx + 1) H0.size
  have hlt_hx := hx.lt
  have nx_hm0_hso := Nx.refl (mb + 1) H0.size
  have hlt_hso := hso.lt
  have nx_hm0_hD := Nx.refl (D + 1) H0.size
  have hlt_hD := hD.lt
  have nx_hm0_hl := Nx.refl (lp + 1) H0.size
  have hlt_hl := hl.lt
  have nx_hm0_hB := Nx.refl (Bs + 1) H0.size
  have hlt_hB := hB.lt
  have nx_hm0_ow := Nx.refl kr H0.size
  have hle_ow := ow.le
  refine CW.seq (fun K1 hK1 hE1 => ?_)
  refine CW.region ?_
  refine LR.v (Y.load1 hx.pt rfl Try.isAgg72 rfl) (Wd.u rfl) rfl rfl ?_
  obtain ⟨es, ck, hso⟩ := hso.raw
  refine LR.z (Z.rangeA hso rfl Try.runUnderlying72 rfl) (Wd.u rfl) rfl rfl (fun v5 H5 r5 => ?_)
  obtain ⟨rfl, it, hs5, ob5, hH5⟩ := r5
  have hzs5 : H5.size = H0.size + 1 := by rw [hH5]; simp
  have dj1 : Dj (bx + 1) (H0.size + 1) := Dj.new hx.lt
  have dj2 : Dj (mb + 1) (H0.size + 1) := Dj.new hso.lt
  have dj3 : Dj (D + 1) (H0.size + 1) := Dj.new hD.lt
  have dj4 : Dj (lp + 1) (H0.size + 1) := Dj.new hl.lt
  have dj5 : Dj (Bs + 1) (H0.size + 1) := Dj.new hB.lt
  have dj6 : Dj kr (H0.size + 1) := Dj.new ow.le
  have nx7 : Nx 0 H0.size (H0.size + 1) := Nx.new hm0.size
  replace hx := hx.nw hs5
  replace hso := hso.nw hs5
  replace hD := hD.nw hs5
  replace hl := hl.nw hs5
  replace hB := hB.nw hs5
  replace ow := ow.nw hs5
  replace hm0 := hm0.trN hs5
  have hz1 := hs5.size
  have hlt_it := it.lt
  refine LR.nil ?_
  refine hK1 _ _ ?_
  refine CW.block (fun K2 hK2 hX2 hE2 => ?_)
  refine CW.loop (fun (s_ : (List Ide) × (Value) × (Nat)) => match s_ with | (dn, vr3, kr3) => [(0, .func (.yield lp) #[] #[]), (5, .pointer (some ⟨H0.size, 0, none⟩))])
    (fun (s_ : (List Ide) × (Value) × (Nat)) (H : Heap) => match s_ with | (dn, vr3, kr3) => (Itr H H0.size mb vA es ck dn) ∧ (Lpr H lp r_) ∧ (Var 28 H Bs [vr3]) ∧ (Ow kr3 30 H fA 32 vr3 dn) ∧ (dn.Nodup ∧ ∀ k ∈ dn, k ∈ mm.map (·.1)) ∧ (Nx kr H5.size kr3) ∧ (Dj (H0.size + 1) kr3) ∧ (Dj (lp + 1) kr3) ∧ (Dj (Bs + 1) kr3) ∧ Mo (Ms [(H0.size + 1), (lp + 1), (Bs + 1), kr]) H5 H)
    (fun (s_ : (List Ide) × (Value) × (Nat)) => match s_ with | (dn, vr3, kr3) => mm.length - dn.length) ([], vr, kr) ⟨rfl, rfl, trivial⟩ ?_ ?_
  ·
    exact ⟨it, hl, hB, ow, ⟨List.nodup_nil, by simp⟩, Nx.refl _ _, dj6.symm, d_hl_ow, d_hB_ow, Mo.refl _ _⟩
  rintro ⟨dn, vr3, kr3⟩ HL1 hI1 K3 hN3 hE3
  obtain ⟨it, hl, hB, ow, hdn, nxl_ow, dj_it_ow, dj_hl_ow, dj_hB_ow, hlm1⟩ := hI1
  have dj8 : Dj (bx + 1) kr3 := Dj.app (d_hx_ow) hx.lt nxl_ow
  have dj9 : Dj (mb + 1) kr3 := Dj.app (d_hso_ow) hso.lt nxl_ow
  have dj10 : Dj (D + 1) kr3 := Dj.app (d_hD_ow) hD.lt nxl_ow
  have nx11 : Nx kr H0.size kr3 := Nx.tr (nx_hm0_ow) nxl_ow hm0.size
  replace hx := hx.upL hlm1 (DL.cons dj1 (DL.cons d_hx_hl (DL.cons d_hx_hB (DL.cons d_hx_ow DL.nil))))
  replace hso := hso.upL hlm1 (DL.cons dj2 (DL.cons d_hso_hl (DL.cons d_hso_hB (DL.cons d_hso_ow DL.nil))))
  replace hD := hD.upL hlm1 (DL.cons dj3 (DL.cons d_hD_hl (DL.cons d_hD_hB (DL.cons d_hD_ow DL.nil))))
  replace hm0 := hm0.trL hlm1 (MIL.cons (MI.app MI.z (nx7) (Nat.le_refl _)) (MIL.cons (MI.app (MI.root (by simp)) (nx_hm0_hl) (Nat.le_refl _)) (MIL.cons (MI.app (MI.root (by simp)) (nx_hm0_hB) (Nat.le_refl _)) (MIL.cons (MI.app (MI.root (by simp)) (nx_hm0_ow) (Nat.le_refl _)) MIL.nil))))
  have hz2 := hlm1.size
  have hle_ow := ow.le
  have dj12 := dj_it_ow
  have dj13 := dj_hl_ow
  have dj14 := dj_hB_ow
  have nx_hlm1_it := Nx.refl (H0.size + 1) H5.size
  have nx_hlm1_hl := Nx.refl (lp + 1) H5.size
  have nx_hlm1_hB := Nx.refl (Bs + 1) H5.size
  have nx15 := nxl_ow
  have hdl := nodup_le hdn.1 hdn.2
  rw [List.length_map] at hdl
  refine CW.seq (fun K4 hK4 hE4 => ?_)
  refine CW.region ?_
  refine LR.z (Z.nextA it hso keyId.inj rfl rfl) (Wd.u rfl) rfl rfl (fun v6 H6 r6 => ?_)
  obtain ⟨qb, x, y, dn2, rfl, it, hT6, hF6, hs6⟩ := r6
  replace hs6 := hs6.md1
  replace hx := hx.upL hs6 (DL.cons dj1 DL.nil)
  replace hso := hso.upL hs6 (DL.cons dj2 DL.nil)
  replace hD := hD.upL hs6 (DL.cons dj3 DL.nil)
  replace ow := ow.upL hs6 (DL.cons dj12.symm DL.nil)
  replace hl := hl.upL hs6 (DL.cons dj4 DL.nil)
  replace hB := hB.upL hs6 (DL.cons dj5 DL.nil)
  replace hm0 := hm0.trL hs6 (MIL.cons (MI.app MI.z (nx7) (Nat.le_refl _)) MIL.nil)
  replace hlm1 := hlm1.trL hs6 (MIL.cons (MI.app (MI.root (by simp)) (nx_hlm1_it) (Nat.le_refl _)) MIL.nil)
  have hz3 := hs6.size
  refine LR.v (Y.ext0 rfl rfl) (Wd.u rfl) rfl rfl ?_
  refine LR.nil ?_
  refine hK4 _ _ ?_
  refine CW.seq (fun K5 hK5 hE5 => ?_)
  refine CW.cond rfl (fun c7 => ?_) (fun c7 => ?_)
  ·
    obtain ⟨hxy, hnd, hdq⟩ := hT6 c7
    rw [hdq] at it
    refine CW.skip ?_
    refine hK5 _ _ ?_
    refine CW.block (fun K6 hK6 hX6 hE6 => ?_)
    refine CW.seq (fun K7 hK7 hE7 => ?_)
    refine CW.region ?_
    refine LR.v (Y.entryA it hso keyId.inj hxy rfl rfl) (Wd.u rfl) rfl rfl ?_
    refine LR.v (Y.extract rfl rfl rfl) (Wd.u rfl) rfl rfl ?_
    refine LR.z (Z.allocv rfl Try.zeroValue30) (Wd.u rfl) rfl rfl (fun v3 H3 r3 => ?_)
    obtain ⟨rfl, vi, hs3, ob3, hH3⟩ := r3
    have hzs3 : H3.size = H6.size + 1 := by rw [hH3]; simp
    have dj16 : Dj (bx + 1) (H6.size + 1) := Dj.new hx.lt
    have dj17 : Dj (mb + 1) (H6.size + 1) := Dj.new hso.lt
    have dj18 : Dj (D + 1) (H6.size + 1) := Dj.new hD.lt
    have dj19 : Dj kr3 (H6.size + 1) := Dj.new ow.le
    have dj20 : Dj (H0.size + 1) (H6.size + 1) := Dj.new it.lt
    have dj21 : Dj (lp + 1) (H6.size + 1) := Dj.new hl.lt
    have dj22 : Dj (Bs + 1) (H6.size + 1) := Dj.new hB.lt
    have nx23 : Nx 0 H0.size (H6.size + 1) := Nx.new hm0.size
    have nx24 : Nx 0 H5.size (H6.size + 1) := Nx.new hlm1.size
    replace hx := hx.nw hs3
    replace hso := hso.nw hs3
    replace hD := hD.nw hs3
    replace ow := ow.nw hs3
    replace it := it.nw hs3
    replace hl := hl.nw hs3
    replace hB := hB.nw hs3
    replace hm0 := hm0.trN hs3
    replace hlm1 := hlm1.trN hs3
    have hz4 := hs3.size
    replace vi : Var 30 H3 H6.size (fA Zid) := vi
    refine LR.s (S.var vi (_) (fA (x)) rfl rfl rfl rfl (fA_one _) Try.sizeOf30 (fA_len _) (by first | decide | simp [fA_len]) ((splice_all2 (by first | exact (fA_len _).symm | rfl | exact (fA_len _).trans (fA_len _).symm)))) (Wd.u rfl) rfl (fun H2_3 r2_3 => ?_)
    obtain ⟨vi, hs2_3⟩ := r2_3
    replace hs2_3 := hs2_3.md1
    replace hx := hx.upL hs2_3 (DL.cons dj16 DL.nil)
    replace hso := hso.upL hs2_3 (DL.cons dj17 DL.nil)
    replace hD := hD.upL hs2_3 (DL.cons dj18 DL.nil)
    replace ow := ow.upL hs2_3 (DL.cons dj19 DL.nil)
    replace it := it.upL hs2_3 (DL.cons dj20 DL.nil)
    replace hl := hl.upL hs2_3 (DL.cons dj21 DL.nil)
    replace hB := hB.upL hs2_3 (DL.cons dj22 DL.nil)
    replace hm0 := hm0.trL hs2_3 (MIL.cons (MI.app MI.z (nx23) (Nat.le_refl _)) MIL.nil)
    replace hlm1 := hlm1.trL hs2_3 (MIL.cons (MI.app MI.z (nx24) (Nat.le_refl _)) MIL.nil)
    have hz5 := hs2_3.size
    refine LR.nil ?_
    refine hK7 _ _ ?_
    refine CW.seq (fun K8 hK8 hE8 => ?_)
    refine CW.region_in ?_
    refine LRI.v (Y.move rfl rfl) (by intro c e; cases e) (Wd.u rfl) rfl rfl ?_
    refine LRI.v (Y.loadN vi.pt rfl Try.isAgg30 Try.sizeOf30 (fA_len _) rfl) (by intro c e; cases e) (Wd.u rfl) rfl rfl ?_
    refine LRI.round rfl rfl rfl (Wd.u rfl) rfl rfl (ap_round r_ Bs lp _ _ dn x w0 _ hr hl hB ow (d_hl_hB) (dj13) (dj14) (by omega)) (fun v12 H12 r12 => ?_)
    have ql25 := hx.lt
    have ql26 := hso.lt
    have ql27 := hD.lt
    have ql28 := ow.le
    have ql29 := it.lt
    have ql30 := hl.lt
    have ql31 := hB.lt
    have ql32 := vi.lt
    obtain ⟨vr12, kr12, rfl, hl, hB, ow, hk12, hs12⟩ := r12
    have dj33 : Dj (bx + 1) kr12 := Dj.app (dj8) ql25 hk12
    have dj34 : Dj (mb + 1) kr12 := Dj.app (dj9) ql26 hk12
    have dj35 : Dj (D + 1) kr12 := Dj.app (dj10) ql27 hk12
    have dj36 : Dj (H0.size + 1) kr12 := Dj.app (dj12) ql29 hk12
    have dj37 : Dj (lp + 1) kr12 := Dj.app (dj13) ql30 hk12
    have dj38 : Dj (Bs + 1) kr12 := Dj.app (dj14) ql31 hk12
    have dj39 : Dj (H6.size + 1) kr12 := Dj.app (dj19.symm) ql32 hk12
    have nx40 : Nx kr H0.size kr12 := Nx.tr (nx11) hk12 hm0.size
    have nx41 : Nx kr H5.size kr12 := Nx.tr (nx15) hk12 hlm1.size
    replace hx := hx.upL hs12 (DL.cons d_hx_hl (DL.cons d_hx_hB (DL.cons dj8 DL.nil)))
    replace hso := hso.upL hs12 (DL.cons d_hso_hl (DL.cons d_hso_hB (DL.cons dj9 DL.nil)))
    replace hD := hD.upL hs12 (DL.cons d_hD_hl (DL.cons d_hD_hB (DL.cons dj10 DL.nil)))
    replace it := it.upL hs12 (DL.cons dj4.symm (DL.cons dj5.symm (DL.cons dj12 DL.nil)))
    replace vi := vi.upL hs12 (DL.cons dj21.symm (DL.cons dj22.symm (DL.cons dj19.symm DL.nil)))
    replace hm0 := hm0.trL hs12 (MIL.cons (MI.app (MI.root (by simp)) (nx_hm0_hl) (Nat.le_refl _)) (MIL.cons (MI.app (MI.root (by simp)) (nx_hm0_hB) (Nat.le_refl _)) (MIL.cons (MI.app (MI.root (by simp)) (nx11) (Nat.le_refl _)) MIL.nil)))
    replace hlm1 := hlm1.trL hs12 (MIL.cons (MI.app (MI.root (by simp)) (nx_hlm1_hl) (Nat.le_refl _)) (MIL.cons (MI.app (MI.root (by simp)) (nx_hlm1_hB) (Nat.le_refl _)) (MIL.cons (MI.app (MI.root (by simp)) (nx15) (Nat.le_refl _)) MIL.nil)))
    have hz6 := hs12.size
    have hle_ow := ow.le
    refine LRI.v (Y.not rfl rfl) (by intro c e; cases e) (Wd.u rfl) rfl rfl ?_
    refine LRI.nil ?_
    refine hK8 _ _ ?_
    refine CW.cond_f rfl ?_
    refine CW.skip ?_
    refine hK6 _ _ ?_
    have hdn2 : (dn ++ [x]).Nodup ∧ ∀ k ∈ dn ++ [x], k ∈ mm.map (·.1) := by
      refine ⟨?_, fun k hk => ?_⟩
      · rw [List.nodup_append]
        exact ⟨hdn.1, by simp, fun a ha b hb e => by simp only [List.mem_singleton] at hb; subst hb; subst e; exact hnd ha⟩
      · rcases List.mem_append.1 hk with hk | hk
        · exact hdn.2 k hk
        · rw [List.mem_singleton.1 hk]; exact List.mem_map.2 ⟨_, hxy, rfl⟩
    have hdl2 := nodup_le hdn2.1 hdn2.2
    rw [List.length_append, List.length_map, List.length_singleton] at hdl2
    refine QN.sub (hN3 (dn ++ [x], vr12, kr12) _ ?_ ?_) ⟨rfl, rfl, trivial⟩
    · exact ⟨it, hl, hB, ow, hdn2, nx41, dj36, dj37, dj38, hlm1⟩
    · simp <;> omega
  ·
    obtain ⟨hall, hdq⟩ := hF6 c7
    refine CW.exit (hE5 (.exit 0) nofun _ _ (hE3 (.exit 0) nofun _ _ (hX2 _ _ ?_)))
    refine hret .normal (.inl rfl) _ _ _ (res0 rfl) ?_
    exact ⟨vr3, kr3, dn, rfl, hl, hB, ow, nx11, ⟨hdn.1, fun k => ⟨hdn.2 k, fun h => by obtain ⟨p, hp, rfl⟩ := List.mem_map.1 h; exact hall p hp⟩⟩, hm0⟩

end Go.Proofs.Ytepdhokpfecdnaa.GraK
