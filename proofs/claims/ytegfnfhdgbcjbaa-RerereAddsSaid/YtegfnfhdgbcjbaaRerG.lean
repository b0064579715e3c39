/-
  Memories: the document's Find, and whether two rows are the same.
-/
import Derived.Test.YtegfnfhdgbcjbaaRerF
namespace Go.Proofs.Ytegfnfhdgbcjbaa.RerG
open Go.Proofs.Ytegfnfhdgbcjbaa.E Go.RowKit Go.Proofs.Ytegfnfhdgbcjbaa.LinM Go.Proofs.Ytegfnfhdgbcjbaa.LinC Go.Proofs.Ytegfnfhdgbcjbaa.LinL Go.Proofs.Ytegfnfhdgbcjbaa.LinN Go.Proofs.Ytegfnfhdgbcjbaa.MerA Go.Proofs.Ytegfnfhdgbcjbaa.MerB Go.Proofs.Ytegfnfhdgbcjbaa.MerC Go.Proofs.Ytegfnfhdgbcjbaa.MerD Go.Proofs.Ytegfnfhdgbcjbaa.MerE Go.Proofs.Ytegfnfhdgbcjbaa.MerF Go.Proofs.Ytegfnfhdgbcjbaa.MerH Go.Proofs.Ytegfnfhdgbcjbaa.MerL Go.Proofs.Ytegfnfhdgbcjbaa.MerM Go.Proofs.Ytegfnfhdgbcjbaa.MerN Go.Proofs.Ytegfnfhdgbcjbaa.SumA Go.Proofs.Ytegfnfhdgbcjbaa.SumB Go.Proofs.Ytegfnfhdgbcjbaa.SumC Go.Proofs.Ytegfnfhdgbcjbaa.SumD Go.Proofs.Ytegfnfhdgbcjbaa.SumE Go.Proofs.Ytegfnfhdgbcjbaa.SumF Go.Proofs.Ytegfnfhdgbcjbaa.SumG Go.Proofs.Ytegfnfhdgbcjbaa.SumK Go.Proofs.Ytegfnfhdgbcjbaa.SumL Go.Proofs.Ytegfnfhdgbcjbaa.SumM Go.Proofs.Ytegfnfhdgbcjbaa.DelA Go.Proofs.Ytegfnfhdgbcjbaa.RerA Go.Proofs.Ytegfnfhdgbcjbaa.RerB Go.Proofs.Ytegfnfhdgbcjbaa.RerF
set_option maxRecDepth 20000
set_option linter.unusedVariables false
set_option linter.unusedSimpArgs false
set_option linter.unusedSectionVars false
set_option maxRecDepth 100000 in
theorem inf22 : Inf Try.prog 22 5 1 1 := ⟨Try.underlying22, _, _, rfl, rfl, rfl, rfl, rfl⟩

/-- the document's: what is found, and whether -/
def rfindL (l : List Mn) (k : List UInt8) : Option (List UInt8) := (l.find? (fun x => decide (x.1 = k))).map (·.2)
theorem find_at {l : List Mn} {k : List UInt8} {i : Nat} (h : ∀ x ∈ l.take i, x.1 ≠ k) (hi : i < l.length) (e : l[i].1 = k) : rfindL l k = some l[i].2 := by
  unfold rfindL
  have : l.find? (fun x => decide (x.1 = k)) = some l[i] := by
    conv => lhs; rw [← List.take_append_drop i l, List.drop_eq_getElem_cons hi]
    rw [List.find?_append, List.find?_eq_none.2 (fun x hx => by simpa using h x hx), List.find?_cons_of_pos (by simpa using e)]; rfl
  rw [this]; rfl
theorem find_no {l : List Mn} {k : List UInt8} (h : ∀ x ∈ l, x.1 ≠ k) : rfindL l k = none := by
  unfold rfindL
  rw [List.find?_eq_none.2 (fun x hx => by simpa using h x hx)]; rfl
theorem ne_step {l : List Mn} {k : List UInt8} {i : Nat} (h : ∀ x ∈ l.take i, x.1 ≠ k) (hi : i < l.length) (e : l[i].1 ≠ k) : ∀ x ∈ l.take (i + 1), x.1 ≠ k := by
  intro x hx
  rw [List.take_succ_eq_append_getElem hi] at hx
  rcases List.mem_append.1 hx with hx | hx
  · exact h x hx
  · rw [List.mem_singleton] at hx; rw [hx]; exact e

set_option maxHeartbeats 4000000 in
theorem rfind_ct (v : Value) (l : List Mm) (k : List UInt8) (w0 : World) (H0 : Heap)
    (hl : RdT H0 fM 33 v l) (hk : k.length = 32) (hx : ∀ x ∈ l, MmR (fun _ => True) H0 x) (hdl : ∀ x ∈ l, x.d.length ≤ 140737488355328) :
    Ct Try.prog w0 19 #[v, idV k] H0 (fun r H2 => ∃ s : SV, ∃ kd : Nat, r = .tuple #[s.v, .bool (rfindL (l.map Mm.c) k).isSome] ∧ (Ow kd 5 H2 fB 1 s.v ((rfindL (l.map Mm.c) k).getD [])) ∧ (Nx 0 H0.size kd) ∧ Nw H0 H2) := by
  refine Ct.enter (args := [v, idV k]) Try.func19 rfl rfl rfl ?_
  intro Q0 hret
  have hm0 : Nw H0 H0 := Mo.refl _ _
  replace hl := hl.bnd
  have bf_hl := Rd.bf hl
  replace hx := fun x hx0 => (hx x hx0).bnd
  have bf_hx : BF (fun b => True ∧ b < H0.size) H0.size := fun b h => h.2
  have hlm := hl.len
  refine CW.seq (fun K1 hK1 hE1 => ?_)
  refine CW.region ?_
  refine LR.z (Z.boxv rfl rfl) (Wd.u rfl) rfl rfl (fun v3 H3 r3 => ?_)
  obtain ⟨rfl, hb, hs3, ob3, hH3⟩ := r3
  have hzs3 : H3.size = H0.size + 1 := by rw [hH3]; simp
  have df1 := (DF.new (bf_hl.mono hm0.size) : DF _ (H0.size + 1))
  have df2 := (DF.new (bf_hx.mono hm0.size) : DF _ (H0.size + 1))
  have nx3 : Nx 0 H0.size (H0.size + 1) := Nx.new hm0.size
  replace hl := hl.nw hs3
  replace hx := fun x hx0 => (hx x hx0).nw hs3
  replace hm0 := hm0.tr hs3
  have hz1 := hs3.size
  replace hb : Var 25 H3 H0.size (k.map V8) := hb
  refine LR.v (Y.assign rfl rfl) (Wd.u rfl) rfl rfl ?_
  refine LR.v (Y.assign rfl rfl) (Wd.u rfl) rfl rfl ?_
  refine LR.nil ?_
  refine hK1 _ _ ?_
  refine CW.seq (fun K2 hK2 hE2 => ?_)
  refine CW.seq (fun K3 hK3 hE3 => ?_)
  refine CW.region ?_
  refine LR.v (Y.assign rfl rfl) (Wd.u rfl) rfl rfl ?_
  refine LR.nil ?_
  refine hK3 _ _ ?_
  refine CW.block (fun K4 hK4 hX4 hE4 => ?_)
  refine CW.loop (fun (i : (Nat)) => [(0, v), (3, .pointer (some ⟨H0.size, 0, none⟩)), (6, .int .i64 i)])
    (fun (i : (Nat)) (H : Heap) => (i ≤ l.length) ∧ (∀ x ∈ (l.map Mm.c).take i, x.1 ≠ k) ∧ Nw H3 H)
    (fun (i : (Nat)) => l.length - i) 0 ⟨rfl, rfl, rfl, trivial⟩ ?_ ?_
  ·
    exact ⟨(by omega), (fun x hx => by simp at hx), Mo.refl _ _⟩
  intro i HL1 hI1 K5 hN5 hE5
  obtain ⟨hi, hp, hlm1⟩ := hI1
  replace hl := hl.nw hlm1
  replace hx := fun x hx0 => (hx x hx0).nw hlm1
  replace hb := hb.nw hlm1
  replace hm0 := hm0.tr hlm1
  have hz2 := hlm1.size
  refine CW.seq (fun K6 hK6 hE6 => ?_)
  refine CW.seq (fun K7 hK7 hE7 => ?_)
  refine CW.region ?_
  refine LR.v (Y.move rfl rfl) (Wd.u rfl) rfl rfl ?_
  refine LR.v (Y.move rfl rfl) (Wd.u rfl) rfl rfl ?_
  refine LR.v (Y.len hl rfl Try.runUnderlying40 rfl) (Wd.u rfl) rfl rfl ?_
  refine LR.v (Y.lss rfl rfl rfl) (Wd.u rfl) rfl rfl ?_
  refine LR.nil ?_
  refine hK7 _ _ ?_
  refine CW.condp rfl (fun c10 => ?_) (fun c10 => ?_)
  ·
    refine CW.skip ?_
    refine hK6 _ _ ?_
    refine CW.seq (fun K8 hK8 hE8 => ?_)
    refine CW.block (fun K9 hK9 hX9 hE9 => ?_)
    refine CW.seq (fun K10 hK10 hE10 => ?_)
    refine CW.region_draw rfl (by kernel_rfl) ?_
    refine LR.v (Y.move rfl rfl) (Wd.u rfl) rfl rfl ?_
    refine LR.v (Y.move rfl rfl) (Wd.u rfl) rfl rfl ?_
    have hil : i < l.length := by omega
    have hmi := hx l[i] (List.getElem_mem hil)
    have hki := hmi.k
    have hdi := hdl l[i] (List.getElem_mem hil)
    refine LR.e (g := fun ad => .pointer (some ad)) (Y.indexAddrF hl (i) rfl Try.runUnderlying40 Try.sizeOf47 rfl rfl (by first | rfl | omega) (by first | omega | (simp; omega) | (simp; done))) (Wd.u rfl) rfl rfl (fun ad15 pt15 => ?_)
    have bf_pt15 := bf_hl
    refine LR.v (Y.fieldAddr pt15.pt rfl Try.runUnderlying47 rfl rfl Try.sizeOf25 (by decide) rfl) (Wd.u rfl) rfl rfl ?_
    refine LR.v (Y.cast (v2 := idV l[i].k) (Y.loadN ((pt15.pt.drop 0).take 32) rfl Try.isAgg25 Try.sizeOf25 (by simp [kc_len]) rfl) (congrArg (fun x : List Value => Value.agg x.toArray) (kc_at _ hki))) (Wd.u rfl) rfl rfl ?_
    refine LR.v (Y.loadN hb.pt rfl Try.isAgg25 Try.sizeOf25 (by simp [hk]) rfl) (Wd.u rfl) rfl rfl ?_
    refine LR.v (Y.aeql rfl Try.eqGuardType25 (fun w => run_equalIn_id 9998 Try.underlying25 Try.underlying5 Try.sizeOf5 Try.isAgg5 (hki) (hk) w) rfl rfl) (Wd.u rfl) rfl rfl ?_
    refine LR.nil ?_
    refine hK10 _ _ ?_
    refine CW.condp rfl (fun c19 => ?_) (fun c19 => ?_)
    ·
      refine CW.seq (fun K11 hK11 hE11 => ?_)
      refine CW.region ?_
      refine LR.z (Z.litw _ (([] : List UInt8)) rfl inf22 rfl rfl rfl (by decide) (by decide) fB_len fB_one (rfl)) (Wd.u rfl) rfl rfl (fun v20 H20 r20 => ?_)
      obtain ⟨ow20, hs20, ob20, hH20⟩ := r20
      have hzs20 : H20.size = HL1.size + 1 := by rw [hH20]; simp
      have df4 := (DF.new (bf_hl.mono hm0.size) : DF _ (HL1.size + 1))
      have df5 := (DF.new (bf_hx.mono hm0.size) : DF _ (HL1.size + 1))
      have dj6 : Dj (H0.size + 1) (HL1.size + 1) := Dj.new hb.lt
      have nx7 : Nx 0 H0.size (HL1.size + 1) := Nx.new hm0.size
      have nx8 : Nx 0 H3.size (HL1.size + 1) := Nx.new hlm1.size
      replace hl := hl.nw hs20
      replace hx := fun x hx0 => (hx x hx0).nw hs20
      replace hb := hb.nw hs20
      replace hm0 := hm0.tr hs20
      replace hlm1 := hlm1.tr hs20
      have hz3 := hs20.size
      refine LR.v (Y.move rfl rfl) (Wd.u rfl) rfl rfl ?_
      refine LR.v (Y.move rfl rfl) (Wd.u rfl) rfl rfl ?_
      refine LR.e (g := fun ad => .pointer (some ad)) (Y.indexAddrF hl (i) rfl Try.runUnderlying40 Try.sizeOf47 rfl rfl (by first | rfl | omega) (by first | omega | (simp; omega) | (simp; done))) (Wd.u rfl) rfl rfl (fun ad23 pt23 => ?_)
      have bf_pt23 := bf_hl
      refine LR.v (Y.fieldAddr pt23.pt rfl Try.runUnderlying47 rfl rfl Try.sizeOf22 (by decide) rfl) (Wd.u rfl) rfl rfl ?_
      refine LR.v (Y.load1 (fM_pt pt23.pt) rfl Try.isAgg22 rfl) (Wd.u rfl) rfl rfl ?_
      refine LR.z (Z.apnd ow20 (hx l[i] (List.getElem_mem hil)).d.any rfl inf22 rfl rfl ((by simp only [List.length_nil]; omega)) ((by simp only [List.length_nil]; omega))) (Wd.u rfl) rfl rfl (fun v26 H26 r26 => ?_)
      obtain ⟨k26, ow20, hk26, hs26⟩ := r26
      replace hk26 : Nx (HL1.size + 1) H20.size k26 := hk26
      replace hs26 := hs26.md
      have df9 := DF.app (df4) (bf_hl.mono hm0.size) hk26
      have df10 := DF.app (df5) (bf_hx.mono hm0.size) hk26
      have dj11 : Dj (H0.size + 1) k26 := Dj.app (dj6) hb.lt hk26
      have df12 := DF.app (df4) (bf_pt23.mono hm0.size) hk26
      have nx13 : Nx 0 H0.size k26 := Nx.tr (nx7) hk26 hm0.size
      have nx14 : Nx 0 H3.size k26 := Nx.tr (nx8) hk26 hlm1.size
      replace hl := hl.upL hs26 (DFL.cons df4 DFL.nil)
      replace hx := fun x hx0 => (hx x hx0).upL hs26 (DFL.cons df5 DFL.nil)
      replace hb := hb.upL hs26 (DL.cons dj6 DL.nil)
      replace pt23 := pt23.upL hs26 (DFL.cons df4 DFL.nil)
      replace hm0 := (Mo.trL (ks := []) (hm0.mdn []) hs26 (MIL.cons (MI.app MI.z (nx7) (Nat.le_refl _)) MIL.nil)).nil
      replace hlm1 := (Mo.trL (ks := []) (hlm1.mdn []) hs26 (MIL.cons (MI.app MI.z (nx8) (Nat.le_refl _)) MIL.nil)).nil
      have hz4 := hs26.size
      have hle_ow20 := ow20.le
      refine LR.v (Y.assign rfl rfl) (Wd.u rfl) rfl rfl ?_
      refine LR.v (Y.assign rfl rfl) (Wd.u rfl) rfl rfl ?_
      refine LR.nil ?_
      refine hK11 _ _ ?_
      refine CW.ret (hE9 .ret nofun (by simp) _ _ (hE8 .ret nofun _ _ (hE5 .ret nofun _ _ (hE4 .ret nofun (by simp) _ _ (hE2 .ret nofun _ _ (hret .ret (.inr rfl) _ _ _ (res2 rfl rfl rfl) ?_))))))
      obtain ⟨s26, rfl⟩ : ∃ s : SV, v26 = s.v := ⟨toSV v26, ow20.sv.symm⟩
      have hfa := find_at hp (by simpa using hil) (by simpa using c19)
      exact ⟨s26, k26, by rw [hfa]; rfl, by rw [hfa]; simpa using ow20, nx13, hm0⟩
    ·
      refine CW.skip ?_
      refine hK9 _ _ ?_
      refine hK8 _ _ ?_
      refine CW.region ?_
      refine LR.v (Y.move rfl rfl) (Wd.u rfl) rfl rfl ?_
      refine LR.v (Y.addi rfl rfl rfl (by omega)) (Wd.u rfl) rfl rfl ?_
      refine LR.v (Y.assign rfl rfl) (Wd.u rfl) rfl rfl ?_
      refine LR.nil ?_
      refine QN.sub (hN5 (i + 1) _ ?_ ?_) ⟨rfl, rfl, (iv (by omega)), trivial⟩
      · exact ⟨(by omega), ne_step hp (by simpa using hil) (by simpa using c19), hlm1⟩
      · first | omega | (simp only; omega) | (simp; omega)
  ·
    refine CW.exit (hE6 (.exit 0) nofun _ _ (hE5 (.exit 0) nofun _ _ (hX4 _ _ ?_)))
    refine hK2 _ _ ?_
    refine CW.seq (fun K12 hK12 hE12 => ?_)
    refine CW.region ?_
    refine LR.v (Y.assign rfl rfl) (Wd.u rfl) rfl rfl ?_
    refine LR.v (Y.assign rfl rfl) (Wd.u rfl) rfl rfl ?_
    refine LR.nil ?_
    refine hK12 _ _ ?_
    refine CW.ret (hret .ret (.inr rfl) _ _ _ (res2 rfl rfl rfl) ?_)
    have hfn := find_no (l := l.map Mm.c) (k := k) (by rw [List.take_of_length_le (by simp; omega)] at hp; exact hp)
    exact ⟨⟨none, 0, 0⟩, 0, by rw [hfn]; rfl, by rw [hfn]; exact Ow.nil fB_len fB_one, Nx.refl _ _, hm0⟩

set_option maxHeartbeats 4000000 in
theorem same_ct (v1 v2 : Value) (a b : List Mm) (w0 : World) (H0 : Heap)
    (ha : RdT H0 fM 33 v1 a) (hb : RdT H0 fM 33 v2 b) (hx : ∀ x ∈ a, MmR (fun _ => True) H0 x) (hy : ∀ x ∈ b, MmR (fun _ => True) H0 x) (hdl : ∀ x ∈ a, x.d.length ≤ 140737488355328) (hab : a.map Mm.c = b.map Mm.c) :
    Ct Try.prog w0 17 #[v1, v2] H0 (fun r H2 => r = .bool true ∧ Nw H0 H2) := by
  refine Ct.enter (args := [v1, v2]) Try.func17 rfl rfl rfl ?_
  intro Q0 hret
  have hm0 : Nw H0 H0 := Mo.refl _ _
  replace ha := ha.bnd
  have bf_ha := Rd.bf ha
  replace hb := hb.bnd
  have bf_hb := Rd.bf hb
  replace hx := fun x hx0 => (hx x hx0).bnd
  have bf_hx : BF (fun b => True ∧ b < H0.size) H0.size := fun b h => h.2
  replace hy := fun x hy0 => (hy x hy0).bnd
  have bf_hy : BF (fun b => True ∧ b < H0.size) H0.size := fun b h => h.2
  have hlm := ha.len
  have hll : a.length = b.length := by simpa using congrArg List.length hab
  refine CW.seq (fun K1 hK1 hE1 => ?_)
  refine CW.region ?_
  refine LR.v (Y.assign rfl rfl) (Wd.u rfl) rfl rfl ?_
  refine LR.nil ?_
  refine hK1 _ _ ?_
  refine CW.seq (fun K2 hK2 hE2 => ?_)
  refine CW.seq (fun K3 hK3 hE3 => ?_)
  refine CW.region ?_
  refine LR.v (Y.move rfl rfl) (Wd.u rfl) rfl rfl ?_
  refine LR.v (Y.len ha rfl Try.runUnderlying40 rfl) (Wd.u rfl) rfl rfl ?_
  refine LR.v (Y.move rfl rfl) (Wd.u rfl) rfl rfl ?_
  refine LR.v (Y.len hb rfl Try.runUnderlying40 rfl) (Wd.u rfl) rfl rfl ?_
  refine LR.v ((Y.neq rfl rfl rfl).isF (fun h => by simp [hll] at h)) (Wd.u rfl) rfl rfl ?_
  refine LR.nil ?_
  refine hK3 _ _ ?_
  refine CW.cond_f rfl ?_
  refine CW.skip ?_
  refine hK2 _ _ ?_
  refine CW.seq (fun K4 hK4 hE4 => ?_)
  refine CW.seq (fun K5 hK5 hE5 => ?_)
  refine CW.region ?_
  refine LR.v (Y.assign rfl rfl) (Wd.u rfl) rfl rfl ?_
  refine LR.nil ?_
  refine hK5 _ _ ?_
  refine CW.block (fun K6 hK6 hX6 hE6 => ?_)
  refine CW.loop (fun (i : (Nat)) => [(0, v1), (1, v2), (5, .int .i64 i)])
    (fun (i : (Nat)) (H : Heap) => (i ≤ a.length) ∧ Nw H0 H)
    (fun (i : (Nat)) => a.length - i) 0 ⟨rfl, rfl, rfl, trivial⟩ ?_ ?_
  ·
    exact ⟨(by omega), Mo.refl _ _⟩
  intro i HL1 hI1 K7 hN7 hE7
  obtain ⟨hi, hlm1⟩ := hI1
  replace ha := ha.nw hlm1
  replace hb := hb.nw hlm1
  replace hx := fun x hx0 => (hx x hx0).nw hlm1
  replace hy := fun x hy0 => (hy x hy0).nw hlm1
  replace hm0 := hm0.tr hlm1
  have hz1 := hlm1.size
  refine CW.seq (fun K8 hK8 hE8 => ?_)
  refine CW.seq (fun K9 hK9 hE9 => ?_)
  refine CW.region ?_
  refine LR.v (Y.move rfl rfl) (Wd.u rfl) rfl rfl ?_
  refine LR.v (Y.move rfl rfl) (Wd.u rfl) rfl rfl ?_
  refine LR.v (Y.len ha rfl Try.runUnderlying40 rfl) (Wd.u rfl) rfl rfl ?_
  refine LR.v (Y.lss rfl rfl rfl) (Wd.u rfl) rfl rfl ?_
  refine LR.nil ?_
  refine hK9 _ _ ?_
  refine CW.condp rfl (fun c14 => ?_) (fun c14 => ?_)
  ·
    refine CW.skip ?_
    refine hK8 _ _ ?_
    refine CW.seq (fun K10 hK10 hE10 => ?_)
    refine CW.block (fun K11 hK11 hX11 hE11 => ?_)
    refine CW.seq (fun K12 hK12 hE12 => ?_)
    refine CW.region_draw rfl (by kernel_rfl) ?_
    refine LR.v (Y.move rfl rfl) (Wd.u rfl) rfl rfl ?_
    refine LR.v (Y.move rfl rfl) (Wd.u rfl) rfl rfl ?_
    have hil : i < a.length := by omega
    have hib : i < b.length := by omega
    have hmi := hx a[i] (List.getElem_mem hil)
    have hmj := hy b[i] (List.getElem_mem hib)
    have hki := hmi.k
    have hkj := hmj.k
    have hdi := hdl a[i] (List.getElem_mem hil)
    have hcc : a[i].c = b[i].c := by have := List.getElem_of_eq hab (i := i) (by simpa using hil); simpa using this
    have hck : a[i].k = b[i].k := congrArg Prod.fst hcc
    have hcd : a[i].d = b[i].d := congrArg Prod.snd hcc
    refine LR.e (g := fun ad => .pointer (some ad)) (Y.indexAddrF ha (i) rfl Try.runUnderlying40 Try.sizeOf47 rfl rfl (by first | rfl | omega) (by first | omega | (simp; omega) | (simp; done))) (Wd.u rfl) rfl rfl (fun ad19 pt19 => ?_)
    have bf_pt19 := bf_ha
    refine LR.v (Y.fieldAddr pt19.pt rfl Try.runUnderlying47 rfl rfl Try.sizeOf25 (by decide) rfl) (Wd.u rfl) rfl rfl ?_
    refine LR.v (Y.cast (v2 := idV a[i].k) (Y.loadN ((pt19.pt.drop 0).take 32) rfl Try.isAgg25 Try.sizeOf25 (by simp [kc_len]) rfl) (congrArg (fun x : List Value => Value.agg x.toArray) (kc_at _ hki))) (Wd.u rfl) rfl rfl ?_
    refine LR.v (Y.move rfl rfl) (Wd.u rfl) rfl rfl ?_
    refine LR.v (Y.move rfl rfl) (Wd.u rfl) rfl rfl ?_
    refine LR.e (g := fun ad => .pointer (some ad)) (Y.indexAddrF hb (i) rfl Try.runUnderlying40 Try.sizeOf47 rfl rfl (by first | rfl | omega) (by first | omega | (simp; omega) | (simp; done))) (Wd.u rfl) rfl rfl (fun ad24 pt24 => ?_)
    have bf_pt24 := bf_hb
    refine LR.v (Y.fieldAddr pt24.pt rfl Try.runUnderlying47 rfl rfl Try.sizeOf25 (by decide) rfl) (Wd.u rfl) rfl rfl ?_
    refine LR.v (Y.cast (v2 := idV b[i].k) (Y.loadN ((pt24.pt.drop 0).take 32) rfl Try.isAgg25 Try.sizeOf25 (by simp [kc_len]) rfl) (congrArg (fun x : List Value => Value.agg x.toArray) (kc_at _ hkj))) (Wd.u rfl) rfl rfl ?_
    refine LR.v ((Y.aneq rfl Try.eqGuardType25 (fun w => run_equalIn_id 9998 Try.underlying25 Try.underlying5 Try.sizeOf5 Try.isAgg5 (hki) (hkj) w) rfl rfl).isF (fun h => h hck)) (Wd.u rfl) rfl rfl ?_
    refine LR.v (Y.move rfl rfl) (Wd.u rfl) rfl rfl ?_
    refine LR.v (Y.move rfl rfl) (Wd.g rfl rfl rfl) rfl rfl ?_
    refine LR.v (Y.move rfl rfl) (Wd.g rfl rfl rfl) rfl rfl ?_
    refine LR.e (g := fun ad => .pointer (some ad)) (Y.indexAddrF ha (i) rfl Try.runUnderlying40 Try.sizeOf47 rfl rfl (by first | rfl | omega) (by first | omega | (simp; omega) | (simp; done))) (Wd.g rfl rfl rfl) rfl rfl (fun ad31 pt31 => ?_)
    have bf_pt31 := bf_ha
    refine LR.v (Y.fieldAddr pt31.pt rfl Try.runUnderlying47 rfl rfl Try.sizeOf22 (by decide) rfl) (Wd.g rfl rfl rfl) rfl rfl ?_
    refine LR.v (Y.load1 (fM_pt pt31.pt) rfl Try.isAgg22 rfl) (Wd.g rfl rfl rfl) rfl rfl ?_
    refine LR.v (Y.bstr hmi.d rfl Try.underlying22 Try.underlying9 Try.underlying5 rfl) (Wd.g rfl rfl rfl) rfl rfl ?_
    refine LR.v (Y.move rfl rfl) (Wd.g rfl rfl rfl) rfl rfl ?_
    refine LR.v (Y.move rfl rfl) (Wd.g rfl rfl rfl) rfl rfl ?_
    refine LR.e (g := fun ad => .pointer (some ad)) (Y.indexAddrF hb (i) rfl Try.runUnderlying40 Try.sizeOf47 rfl rfl (by first | rfl | omega) (by first | omega | (simp; omega) | (simp; done))) (Wd.g rfl rfl rfl) rfl rfl (fun ad37 pt37 => ?_)
    have bf_pt37 := bf_hb
    refine LR.v (Y.fieldAddr pt37.pt rfl Try.runUnderlying47 rfl rfl Try.sizeOf22 (by decide) rfl) (Wd.g rfl rfl rfl) rfl rfl ?_
    refine LR.v (Y.load1 (fM_pt pt37.pt) rfl Try.isAgg22 rfl) (Wd.g rfl rfl rfl) rfl rfl ?_
    refine LR.v (Y.bstr hmj.d rfl Try.underlying22 Try.underlying9 Try.underlying5 rfl) (Wd.g rfl rfl rfl) rfl rfl ?_
    refine LR.v ((Y.sneq rfl rfl rfl).isF (fun h => h hcd)) (Wd.g rfl rfl rfl) rfl rfl ?_
    refine LR.v (Y.pick_f rfl rfl rfl) (Wd.u rfl) rfl rfl ?_
    refine LR.nil ?_
    refine hK12 _ _ ?_
    refine CW.cond_f rfl ?_
    refine CW.skip ?_
    refine hK11 _ _ ?_
    refine hK10 _ _ ?_
    refine CW.region ?_
    refine LR.v (Y.move rfl rfl) (Wd.u rfl) rfl rfl ?_
    refine LR.v (Y.addi rfl rfl rfl (by omega)) (Wd.u rfl) rfl rfl ?_
    refine LR.v (Y.assign rfl rfl) (Wd.u rfl) rfl rfl ?_
    refine LR.nil ?_
    refine QN.sub (hN7 (i + 1) _ ?_ ?_) ⟨rfl, rfl, (iv (by omega)), trivial⟩
    · exact ⟨(by omega), hlm1⟩
    · first | omega | (simp only; omega) | (simp; omega)
  ·
    refine CW.exit (hE8 (.exit 0) nofun _ _ (hE7 (.exit 0) nofun _ _ (hX6 _ _ ?_)))
    refine hK4 _ _ ?_
    refine CW.seq (fun K13 hK13 hE13 => ?_)
    refine CW.region ?_
    refine LR.v (Y.assign rfl rfl) (Wd.u rfl) rfl rfl ?_
    refine LR.nil ?_
    refine hK13 _ _ ?_
    refine CW.ret (hret .ret (.inr rfl) _ _ _ (res1 rfl rfl) ?_)
    exact ⟨rfl, hm0⟩

end Go.Proofs.Ytegfnfhdgbcjbaa.RerG
