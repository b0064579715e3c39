/-
  Memories added, by the program and by the document.
-/
import Derived.Test.YtegfnfhdgbcjbaaRerJ
namespace Go.Proofs.Ytegfnfhdgbcjbaa.RerK
open Go.Proofs.Ytegfnfhdgbcjbaa.E Go.RowKit Go.Proofs.Ytegfnfhdgbcjbaa.LinM Go.Proofs.Ytegfnfhdgbcjbaa.LinC Go.Proofs.Ytegfnfhdgbcjbaa.LinL Go.Proofs.Ytegfnfhdgbcjbaa.LinN Go.Proofs.Ytegfnfhdgbcjbaa.MerA Go.Proofs.Ytegfnfhdgbcjbaa.MerB Go.Proofs.Ytegfnfhdgbcjbaa.MerC Go.Proofs.Ytegfnfhdgbcjbaa.MerD Go.Proofs.Ytegfnfhdgbcjbaa.MerE Go.Proofs.Ytegfnfhdgbcjbaa.MerF Go.Proofs.Ytegfnfhdgbcjbaa.MerH Go.Proofs.Ytegfnfhdgbcjbaa.MerL Go.Proofs.Ytegfnfhdgbcjbaa.MerM Go.Proofs.Ytegfnfhdgbcjbaa.MerN Go.Proofs.Ytegfnfhdgbcjbaa.SumA Go.Proofs.Ytegfnfhdgbcjbaa.SumB Go.Proofs.Ytegfnfhdgbcjbaa.SumC Go.Proofs.Ytegfnfhdgbcjbaa.SumD Go.Proofs.Ytegfnfhdgbcjbaa.SumE Go.Proofs.Ytegfnfhdgbcjbaa.SumF Go.Proofs.Ytegfnfhdgbcjbaa.SumG Go.Proofs.Ytegfnfhdgbcjbaa.SumK Go.Proofs.Ytegfnfhdgbcjbaa.SumL Go.Proofs.Ytegfnfhdgbcjbaa.SumM Go.Proofs.Ytegfnfhdgbcjbaa.DelA Go.Proofs.Ytegfnfhdgbcjbaa.RerA Go.Proofs.Ytegfnfhdgbcjbaa.RerB Go.Proofs.Ytegfnfhdgbcjbaa.RerF Go.Proofs.Ytegfnfhdgbcjbaa.RerG Go.Proofs.Ytegfnfhdgbcjbaa.RerH Go.Proofs.Ytegfnfhdgbcjbaa.RerI Go.Proofs.Ytegfnfhdgbcjbaa.RerJ
set_option maxRecDepth 20000
set_option linter.unusedVariables false
set_option linter.unusedSimpArgs false
set_option linter.unusedSectionVars false
set_option maxRecDepth 100000 in
theorem inf22 : Inf Try.prog 22 5 1 1 := ⟨Try.underlying22, _, _, rfl, rfl, rfl, rfl, rfl⟩
set_option maxRecDepth 100000 in
theorem inf40 : Inf Try.prog 40 47 33 56 := ⟨Try.underlying40, _, _, rfl, rfl, rfl, rfl, rfl⟩

theorem Nx.z {k h k2 : Nat} (x : Nx 0 h k2) : Nx k h k2 := by unfold Nx at *; omega
theorem DF.or1 {G : Nat → Prop} {kB k : Nat} (h : DF G k) (hB : Dj k kB) : DF (fun b => G b ∨ b + 1 = kB) k := by
  rintro b (e | e) h2
  · exact h b e h2
  · exact hB b h2 e
theorem BF.or1 {G : Nat → Prop} {n kB : Nat} (h : BF G n) (h1 : kB ≤ n) : BF (fun b => G b ∨ b + 1 = kB) n := by
  rintro b (e | e)
  · exact h b e
  · omega
theorem snocM {G G2 : Nat → Prop} {H : Heap} {l : List Mm} {x : Mm} (h : ∀ y ∈ l, MmR G H y) (hg : ∀ b, G b → G2 b) (hx : MmR G2 H x) : ∀ y ∈ l ++ [x], MmR G2 H y := by
  intro y hy
  rcases List.mem_append.1 hy with hy | hy
  · exact (h y hy).imp (fun b _ e => hg b e)
  · rw [List.mem_singleton] at hy; rw [hy]; exact hx
theorem setM {G G2 : Nat → Prop} {H : Heap} {l : List Mm} {x : Mm} (p : Nat) (h : ∀ y ∈ l, MmR G H y) (hg : ∀ b, G b → G2 b) (hx : MmR G2 H x) : ∀ y ∈ l.set p x, MmR G2 H y := by
  intro y hy
  rcases List.mem_or_eq_of_mem_set hy with hy | hy
  · exact (h y hy).imp (fun b _ e => hg b e)
  · rw [hy]; exact hx
theorem insM {G G2 : Nat → Prop} {H : Heap} {l : List Mm} {x : Mm} (p : Nat) (h : ∀ y ∈ l, MmR G H y) (hg : ∀ b, G b → G2 b) (hx : MmR G2 H x) : ∀ y ∈ l.take p ++ x :: l.drop p, MmR G2 H y := by
  intro y hy
  rcases List.mem_append.1 hy with hy | hy
  · exact (h y (List.mem_of_mem_take hy)).imp (fun b _ e => hg b e)
  · rcases List.mem_cons.1 hy with hy | hy
    · rw [hy]; exact hx
    · exact (h y (List.mem_of_mem_drop hy)).imp (fun b _ e => hg b e)
theorem insM2 {G G2 : Nat → Prop} {H : Heap} {l : List Mm} {x : Mm} (p : Nat) (h : ∀ y ∈ l, MmR G H y) (hg : ∀ b, G b → G2 b) (hx : MmR G2 H x) : ∀ y ∈ l.take p ++ [x] ++ l.drop p, MmR G2 H y := by
  have e : l.take p ++ [x] ++ l.drop p = l.take p ++ x :: l.drop p := by simp
  rw [e]; exact insM p h hg hx
theorem adM_step {a m : List Mm} {i : Nat} (hi : i < m.length) : adM (a.map Mm.c) ((m.take (i + 1)).map Mm.c) = adM1 (adM (a.map Mm.c) ((m.take i).map Mm.c)) m[i].c := by
  rw [List.take_succ_eq_append_getElem hi, List.map_append]; simp [adM]
theorem adM1_hit {lo : List Mm} {x : Mm} {p : Nat} (h0 : x.k ≠ Z32) (h : (placeL (lo.map Mm.c) x.k).2 = true) (hp : (placeL (lo.map Mm.c) x.k).1 = p) : adM1 (lo.map Mm.c) x.c = (lo.set p x).map Mm.c := by
  rw [adM1, if_neg h0, ← ins_hit h, List.map_set, ← hp]
theorem adM1_miss {lo : List Mm} {x : Mm} {p : Nat} (h0 : x.k ≠ Z32) (h : (placeL (lo.map Mm.c) x.k).2 = false) (hp : (placeL (lo.map Mm.c) x.k).1 = p) : adM1 (lo.map Mm.c) x.c = (lo.take p ++ x :: lo.drop p).map Mm.c := by
  rw [adM1, if_neg h0, ← ins_miss h, ← hp]; simp [List.map_take, List.map_drop]
theorem adM1_len (out : List Mn) (x : Mn) : (adM1 out x).length ≤ out.length + 1 := by
  unfold adM1
  split
  · omega
  · cases h : (placeL out x.1).2 with
    | true => rw [← ins_hit h]; simp
    | false => rw [← ins_miss h]; simp; omega
theorem adM_len : ∀ (m out : List Mn), (adM out m).length ≤ out.length + m.length
  | [], out => by simp [adM]
  | x :: m, out => by
    show (adM (adM1 out x) m).length ≤ _
    have h1 := adM_len m (adM1 out x)
    have h2 := adM1_len out x
    simp only [List.length_cons]; omega
theorem Past.of {l : List Mn} {k : List UInt8} {j : Nat} (h : ∀ x ∈ l.take j, Op.bytesLess x.1 k = true) : Past l k j := fun x hx => by
  have h1 := h x hx
  refine ⟨fun e => ?_, ?_⟩
  · rw [e, bl_refl] at h1; cases h1
  · cases h2 : Op.bytesLess k x.1 with
    | false => rfl
    | true => have := bl_trans h1 h2; rw [bl_refl] at this; cases this
theorem less_step {l : List Mm} {k : List UInt8} {j : Nat} (h : ∀ x ∈ (l.map Mm.c).take j, Op.bytesLess x.1 k = true) (hj : j < l.length) (h1 : Op.bytesLess l[j].k k = true) : ∀ x ∈ (l.map Mm.c).take (j + 1), Op.bytesLess x.1 k = true := by
  intro x hx
  rw [List.take_succ_eq_append_getElem (by simpa using hj)] at hx
  rcases List.mem_append.1 hx with hx | hx
  · exact h x hx
  · rw [List.mem_singleton] at hx; rw [hx]; simpa using h1
theorem rplace_hit {l : List Mm} {k : List UInt8} {j : Nat} (h : ∀ x ∈ (l.map Mm.c).take j, Op.bytesLess x.1 k = true) (hj : j < l.length) (h1 : l[j].k = k) : placeL (l.map Mm.c) k = (j, true) :=
  place_hit (Past.of h) (by simpa using hj) (by simpa using h1)
theorem rplace_miss {l : List Mm} {k : List UInt8} {j : Nat} (h : ∀ x ∈ (l.map Mm.c).take j, Op.bytesLess x.1 k = true) (hj : j ≤ l.length) (h1 : ∀ h : j < l.length, l[j].k ≠ k ∧ Op.bytesLess l[j].k k = false) : placeL (l.map Mm.c) k = (j, false) := by
  rcases Nat.lt_or_ge j l.length with hl | hl
  · obtain ⟨h2, h3⟩ := h1 hl
    refine place_miss (Past.of h) (by simpa using hl) (by simpa using h2) ?_
    simp only [List.getElem_map]
    cases h4 : Op.bytesLess k l[j].k with
    | true => rfl
    | false => exact absurd (bl_total _ _ h3 h4) h2
  · exact place_end (Past.of h) (by simp; omega)

set_option maxHeartbeats 8000000 in
theorem madd_ct (v1 v2 : Value) (l m : List Mm) (w0 : World) (H0 : Heap)
    (hl : RdT H0 fM 33 v1 l) (hr : RdT H0 fM 33 v2 m) (hx : ∀ x ∈ l, MmR (fun _ => True) H0 x) (hy : ∀ x ∈ m, MmR (fun _ => True) H0 x) (hll : l.length ≤ 1000) (hml : m.length ≤ 1000) (hdl : ∀ x ∈ l, x.d.length ≤ 140737488355328) (hdm : ∀ x ∈ m, x.d.length ≤ 140737488355328) :
    Ct Try.prog w0 15 #[v1, v2] H0 (fun r H2 => ∃ vr : Value, ∃ kr : Nat, ∃ lo : List Mm, ∃ G : Nat → Prop, r = vr ∧ (Ow kr 47 H2 fM 33 vr lo) ∧ (Nx 0 H0.size kr) ∧ (∀ x ∈ lo, MmR G H2 x) ∧ (BF G H2.size) ∧ (DF G kr) ∧ (lo.map Mm.c = adM (l.map Mm.c) (m.map Mm.c)) ∧ Nw H0 H2) := by
  refine Ct.enter (args := [v1, v2]) Try.func15 rfl rfl rfl ?_
  intro Q0 hret
  have hm0 : Nw H0 H0 := Mo.refl _ _
  replace hl := hl.bnd
  have bf_hl := Rd.bf hl
  replace hr := hr.bnd
  have bf_hr := Rd.bf hr
  replace hx := fun x hx0 => (hx x hx0).bnd
  have bf_hx : BF (fun b => True ∧ b < H0.size) H0.size := fun b h => h.2
  replace hy := fun x hy0 => (hy x hy0).bnd
  have bf_hy : BF (fun b => True ∧ b < H0.size) H0.size := fun b h => h.2
  refine CW.seq (fun K1 hK1 hE1 => ?_)
  refine CW.region ?_
  refine LR.v (Y.assign rfl rfl) (Wd.u rfl) rfl rfl ?_
  refine LR.nil ?_
  refine hK1 _ _ ?_
  refine CW.seq (fun K2 hK2 hE2 => ?_)
  refine CW.region ?_
  refine LR.v (Y.assign rfl rfl) (Wd.u rfl) rfl rfl ?_
  refine LR.nil ?_
  refine hK2 _ _ ?_
  refine CW.seq (fun K3 hK3 hE3 => ?_)
  refine CW.seq (fun K4 hK4 hE4 => ?_)
  refine CW.region ?_
  refine LR.v (Y.move rfl rfl) (Wd.u rfl) rfl rfl ?_
  refine LR.v (Y.len hl rfl Try.runUnderlying40 rfl) (Wd.u rfl) rfl rfl ?_
  refine LR.v (Y.move rfl rfl) (Wd.u rfl) rfl rfl ?_
  refine LR.nil ?_
  refine hK4 _ _ ?_
  refine CW.block (fun K5 hK5 hX5 hE5 => ?_)
  refine CW.loop (fun (s_ : (Nat) × (Value) × (Nat) × (List Mm) × (Nat → Prop)) => match s_ with | (i, va, ka, la_, Ga) => [(1, v2), (5, va), (12, v1), (13, .int .i64 l.length), (14, .int .i64 i)])
    (fun (s_ : (Nat) × (Value) × (Nat) × (List Mm) × (Nat → Prop)) (H : Heap) => match s_ with | (i, va, ka, la_, Ga) => (i ≤ l.length) ∧ (Ow ka 47 H fM 33 va la_) ∧ (∀ x ∈ la_, MmR Ga H x) ∧ (BF Ga H.size) ∧ (DF Ga ka) ∧ (la_.map Mm.c = (l.take i).map Mm.c) ∧ (Nx 0 H0.size ka) ∧ Nw H0 H)
    (fun (s_ : (Nat) × (Value) × (Nat) × (List Mm) × (Nat → Prop)) => match s_ with | (i, va, ka, la_, Ga) => l.length - i) (0, .slice none 0 0, 0, [], fun _ => False) ⟨rfl, rfl, rfl, rfl, rfl, trivial⟩ ?_ ?_
  ·
    exact ⟨(by omega), Ow.nil fM_len fM_one, (fun x h => by cases h), (fun b e => e.elim), (fun b e => e.elim), rfl, Nx.refl _ _, Mo.refl _ _⟩
  rintro ⟨i, va, ka, la_, Ga⟩ HL1 hI1 K6 hN6 hE6
  obtain ⟨hi, ow, hxa, bf_hxa, fga, hlo, nxl_ow, hlm1⟩ := hI1
  have df1 := DF.app (DF.z) (bf_hl.mono hm0.size) nxl_ow
  have df2 := DF.app (DF.z) (bf_hr.mono hm0.size) nxl_ow
  have df3 := DF.app (DF.z) (bf_hx.mono hm0.size) nxl_ow
  have df4 := DF.app (DF.z) (bf_hy.mono hm0.size) nxl_ow
  have nx5 : Nx 0 H0.size ka := Nx.tr (Nx.refl 0 _) nxl_ow hm0.size
  replace hl := hl.nw hlm1
  replace hr := hr.nw hlm1
  replace hx := fun x hx0 => (hx x hx0).nw hlm1
  replace hy := fun x hy0 => (hy x hy0).nw hlm1
  replace hm0 := hm0.tr hlm1
  have hz1 := hlm1.size
  have hle_ow := ow.le
  have nx6 := nxl_ow
  refine CW.seq (fun K7 hK7 hE7 => ?_)
  refine CW.region ?_
  refine LR.v (Y.lss rfl rfl rfl) (Wd.u rfl) rfl rfl ?_
  refine LR.nil ?_
  refine hK7 _ _ ?_
  refine CW.seq (fun K8 hK8 hE8 => ?_)
  refine CW.condp rfl (fun c15 => ?_) (fun c15 => ?_)
  ·
    refine CW.skip ?_
    refine hK8 _ _ ?_
    refine CW.seq (fun K9 hK9 hE9 => ?_)
    refine CW.block (fun K10 hK10 hX10 hE10 => ?_)
    refine CW.seq (fun K11 hK11 hE11 => ?_)
    refine CW.region ?_
    have hil : i < l.length := by omega
    have hmi := hx l[i] (List.getElem_mem hil)
    have hdi := hdl l[i] (List.getElem_mem hil)
    have hol : la_.length = i := by have h9 := congrArg List.length hlo; simp at h9; omega
    refine LR.e (g := fun ad => .pointer (some ad)) (Y.indexAddrF hl (i) rfl Try.runUnderlying40 Try.sizeOf47 rfl rfl (by first | rfl | omega) (by first | omega | (simp; omega) | (simp; done))) (Wd.u rfl) rfl rfl (fun ad16 pt16 => ?_)
    have bf_pt16 := bf_hl
    refine LR.v (Y.loadN pt16.pt rfl Try.isAgg47 Try.sizeOf47 (fM_len _) rfl) (Wd.u rfl) rfl rfl ?_
    refine LR.z (Z.allocv rfl Try.zeroValue47) (Wd.u rfl) rfl rfl (fun v7 H7 r7 => ?_)
    obtain ⟨rfl, hc, hs7, ob7, hH7⟩ := r7
    have hzs7 : H7.size = HL1.size + 1 := by rw [hH7]; simp
    have df7 := (DF.new (bf_hl.mono hm0.size) : DF _ (HL1.size + 1))
    have df8 := (DF.new (bf_hr.mono hm0.size) : DF _ (HL1.size + 1))
    have df9 := (DF.new (bf_hx.mono hm0.size) : DF _ (HL1.size + 1))
    have df10 := (DF.new (bf_hy.mono hm0.size) : DF _ (HL1.size + 1))
    have dj11 : Dj ka (HL1.size + 1) := Dj.new ow.le
    have df12 := (DF.new (bf_hxa.mono (by omega)) : DF _ (HL1.size + 1))
    have df13 := (DF.new (bf_pt16.mono hm0.size) : DF _ (HL1.size + 1))
    have nx14 : Nx 0 H0.size (HL1.size + 1) := Nx.new hm0.size
    have nx15 : Nx 0 H0.size (HL1.size + 1) := Nx.new hlm1.size
    replace hl := hl.nw hs7
    replace hr := hr.nw hs7
    replace hx := fun x hx0 => (hx x hx0).nw hs7
    replace hy := fun x hy0 => (hy x hy0).nw hs7
    replace ow := ow.nw hs7
    replace hxa := fun x hxa_ => (hxa x hxa_).nw hs7
    replace pt16 := pt16.nw hs7
    replace hm0 := hm0.tr hs7
    replace hlm1 := hlm1.tr hs7
    have hz2 := hs7.size
    refine LR.s (S.var hc (_) (fM l[i]) rfl rfl rfl rfl (fM_one l[i]) Try.sizeOf47 (fM_len _) (by decide) ((splice_all2 (fM_len _).symm))) (Wd.u rfl) rfl (fun H4_3 r4_3 => ?_)
    obtain ⟨hc, hs4_3⟩ := r4_3
    replace hs4_3 := hs4_3.md1
    replace hl := hl.upL hs4_3 (DFL.cons df7 DFL.nil)
    replace hr := hr.upL hs4_3 (DFL.cons df8 DFL.nil)
    replace hx := fun x hx0 => (hx x hx0).upL hs4_3 (DFL.cons df9 DFL.nil)
    replace hy := fun x hy0 => (hy x hy0).upL hs4_3 (DFL.cons df10 DFL.nil)
    replace ow := ow.upL hs4_3 (DL.cons dj11 DL.nil)
    replace hxa := fun x hxa_ => (hxa x hxa_).upL hs4_3 (DFL.cons df12 DFL.nil)
    replace pt16 := pt16.upL hs4_3 (DFL.cons df13 DFL.nil)
    replace hm0 := (Mo.trL (ks := []) (hm0.mdn []) hs4_3 (MIL.cons (MI.app MI.z (nx14) (Nat.le_refl _)) MIL.nil)).nil
    replace hlm1 := (Mo.trL (ks := []) (hlm1.mdn []) hs4_3 (MIL.cons (MI.app MI.z (nx15) (Nat.le_refl _)) MIL.nil)).nil
    have hz3 := hs4_3.size
    refine LR.nil ?_
    refine hK11 _ _ ?_
    refine CW.region ?_
    refine LR.v (Y.move rfl rfl) (Wd.u rfl) rfl rfl ?_
    refine LR.v (Y.loadN hc.pt rfl Try.isAgg47 Try.sizeOf47 (fM_len _) rfl) (Wd.u rfl) rfl rfl ?_
    -- call selvage/rerere.own
    refine LR.call rfl Try.call33 rfl (Wd.u rfl) rfl rfl (own_ct l[i] w0 _ (hx l[i] (List.getElem_mem hil)).k (hx l[i] (List.getElem_mem hil)).d.any hdi) (fun v20 H20 r20 => ?_)
    obtain ⟨s20, k20, rfl, ow20, hkx20, hs20⟩ := r20
    have df16 := DF.app (DF.z) (bf_hl.mono hm0.size) hkx20
    have df17 := DF.app (DF.z) (bf_hr.mono hm0.size) hkx20
    have df18 := DF.app (DF.z) (bf_hx.mono hm0.size) hkx20
    have df19 := DF.app (DF.z) (bf_hy.mono hm0.size) hkx20
    have dj20 : Dj ka k20 := Dj.app (Dj.z) ow.le hkx20
    have df21 := DF.app (DF.z) (bf_hxa.mono (by omega)) hkx20
    have dj22 : Dj (HL1.size + 1) k20 := Dj.app (Dj.z) hc.lt hkx20
    have nx23 : Nx 0 H0.size k20 := Nx.tr (Nx.refl 0 _) hkx20 hm0.size
    have nx24 : Nx 0 H0.size k20 := Nx.tr (Nx.refl 0 _) hkx20 hlm1.size
    replace hl := hl.nw hs20
    replace hr := hr.nw hs20
    replace hx := fun x hx0 => (hx x hx0).nw hs20
    replace hy := fun x hy0 => (hy x hy0).nw hs20
    replace ow := ow.nw hs20
    replace hxa := fun x hxa_ => (hxa x hxa_).nw hs20
    replace hc := hc.nw hs20
    replace hm0 := hm0.tr hs20
    replace hlm1 := hlm1.tr hs20
    have hz4 := hs20.size
    have hle_ow20 := ow20.le
    refine LR.z (Z.litw _ ([(⟨l[i].k, l[i].d, s20⟩ : Mm)]) rfl inf40 rfl rfl rfl (by decide) (by decide) fM_len fM_one (rfl)) (Wd.u rfl) rfl rfl (fun v21 H21 r21 => ?_)
    obtain ⟨nw21, hs21, ob21, hH21⟩ := r21
    have hzs21 : H21.size = H20.size + 1 := by rw [hH21]; simp
    have df25 := (DF.new (bf_hl.mono hm0.size) : DF _ (H20.size + 1))
    have df26 := (DF.new (bf_hr.mono hm0.size) : DF _ (H20.size + 1))
    have df27 := (DF.new (bf_hx.mono hm0.size) : DF _ (H20.size + 1))
    have df28 := (DF.new (bf_hy.mono hm0.size) : DF _ (H20.size + 1))
    have dj29 : Dj ka (H20.size + 1) := Dj.new ow.le
    have df30 := (DF.new (bf_hxa.mono (by omega)) : DF _ (H20.size + 1))
    have dj31 : Dj (HL1.size + 1) (H20.size + 1) := Dj.new hc.lt
    have dj32 : Dj k20 (H20.size + 1) := Dj.new ow20.le
    have nx33 : Nx 0 H0.size (H20.size + 1) := Nx.new hm0.size
    have nx34 : Nx 0 H0.size (H20.size + 1) := Nx.new hlm1.size
    replace hl := hl.nw hs21
    replace hr := hr.nw hs21
    replace hx := fun x hx0 => (hx x hx0).nw hs21
    replace hy := fun x hy0 => (hy x hy0).nw hs21
    replace ow := ow.nw hs21
    replace hxa := fun x hxa_ => (hxa x hxa_).nw hs21
    replace hc := hc.nw hs21
    replace ow20 := ow20.nw hs21
    replace hm0 := hm0.tr hs21
    replace hlm1 := hlm1.tr hs21
    have hz5 := hs21.size
    refine LR.z (Z.apnd ow nw21.rd rfl inf40 rfl rfl (by simp; omega) (by simp; omega)) (Wd.u rfl) rfl rfl (fun v22 H22 r22 => ?_)
    obtain ⟨k22, ow, hk22, hs22⟩ := r22
    replace hk22 : Nx ka H21.size k22 := hk22
    replace hs22 := hs22.md
    have df35 := DF.app (df1) (bf_hl.mono hm0.size) hk22
    have df36 := DF.app (df2) (bf_hr.mono hm0.size) hk22
    have df37 := DF.app (df3) (bf_hx.mono hm0.size) hk22
    have df38 := DF.app (df4) (bf_hy.mono hm0.size) hk22
    have df39 := DF.app (fga) (bf_hxa.mono (by omega)) hk22
    have dj40 : Dj (HL1.size + 1) k22 := Dj.app (dj11.symm) hc.lt hk22
    have dj41 : Dj k20 k22 := Dj.app (dj20.symm) ow20.le hk22
    have dj42 : Dj (H20.size + 1) k22 := Dj.app (dj29.symm) nw21.le hk22
    have nx43 : Nx 0 H0.size k22 := Nx.tr (nx5) hk22 hm0.size
    have nx44 : Nx 0 H0.size k22 := Nx.tr (nx6) hk22 hlm1.size
    replace hl := hl.upL hs22 (DFL.cons df1 DFL.nil)
    replace hr := hr.upL hs22 (DFL.cons df2 DFL.nil)
    replace hx := fun x hx0 => (hx x hx0).upL hs22 (DFL.cons df3 DFL.nil)
    replace hy := fun x hy0 => (hy x hy0).upL hs22 (DFL.cons df4 DFL.nil)
    replace hxa := fun x hxa_ => (hxa x hxa_).upL hs22 (DFL.cons fga DFL.nil)
    replace hc := hc.upL hs22 (DL.cons dj11.symm DL.nil)
    replace ow20 := ow20.upL hs22 (DL.cons dj20.symm DL.nil)
    replace nw21 := nw21.upL hs22 (DL.cons dj29.symm DL.nil)
    replace hm0 := (Mo.trL (ks := []) (hm0.mdn []) hs22 (MIL.cons (MI.app MI.z (nx5) (Nat.le_refl _)) MIL.nil)).nil
    replace hlm1 := (Mo.trL (ks := []) (hlm1.mdn []) hs22 (MIL.cons (MI.app MI.z (nx6) (Nat.le_refl _)) MIL.nil)).nil
    have hz6 := hs22.size
    have hle_ow := ow.le
    refine LR.v (Y.assign rfl rfl) (Wd.u rfl) rfl rfl ?_
    refine LR.nil ?_
    refine hK10 _ _ ?_
    refine hK9 _ _ ?_
    refine CW.region ?_
    refine LR.v (Y.addi rfl rfl rfl (by omega)) (Wd.u rfl) rfl rfl ?_
    refine LR.v (Y.move rfl rfl) (Wd.u rfl) rfl rfl ?_
    refine LR.nil ?_
    refine QN.sub (hN6 (i + 1, v22, k22, la_ ++ [⟨l[i].k, l[i].d, s20⟩], fun b => Ga b ∨ b + 1 = k20) _ ?_ ?_) ⟨rfl, rfl, rfl, (iv (by omega)), (iv (by omega)), trivial⟩
    · exact ⟨(by omega), ow, snocM hxa (fun b e => .inl e) ⟨hmi.k, ow20.rd.imp (fun b _ e => .inr e)⟩, BF.or1 (bf_hxa.mono (by omega)) ow20.le, DF.or1 (df39) (dj41.symm), by rw [List.map_append, hlo, List.take_succ_eq_append_getElem hil, List.map_append]; rfl, nx44, hlm1⟩
    · first | omega | (simp only; omega) | (simp; omega)
  ·
    have hil : i = l.length := by omega
    rw [hil, List.take_length] at hlo
    refine CW.exit (hE8 (.exit 0) nofun _ _ (hE6 (.exit 0) nofun _ _ (hX5 _ _ ?_)))
    refine hK3 _ _ ?_
    refine CW.seq (fun K12 hK12 hE12 => ?_)
    refine CW.seq (fun K13 hK13 hE13 => ?_)
    refine CW.region ?_
    refine LR.v (Y.move rfl rfl) (Wd.u rfl) rfl rfl ?_
    refine LR.v (Y.len hr rfl Try.runUnderlying40 rfl) (Wd.u rfl) rfl rfl ?_
    refine LR.v (Y.move rfl rfl) (Wd.u rfl) rfl rfl ?_
    refine LR.nil ?_
    refine hK13 _ _ ?_
    refine CW.block (fun K14 hK14 hX14 hE14 => ?_)
    refine CW.loop (fun (s_ : (Nat) × (Value) × (Nat) × (List Mm) × (Nat → Prop)) => match s_ with | (i, vo, ko, lo, G) => [(5, vo), (24, v2), (25, .int .i64 m.length), (26, .int .i64 i)])
      (fun (s_ : (Nat) × (Value) × (Nat) × (List Mm) × (Nat → Prop)) (H : Heap) => match s_ with | (i, vo, ko, lo, G) => (i ≤ m.length) ∧ (Ow ko 47 H fM 33 vo lo) ∧ (∀ x ∈ lo, MmR G H x) ∧ (BF G H.size) ∧ (DF G ko) ∧ (lo.map Mm.c = adM (l.map Mm.c) ((m.take i).map Mm.c)) ∧ (Nx ka HL1.size ko) ∧ Mo (Ms [ka]) HL1 H)
      (fun (s_ : (Nat) × (Value) × (Nat) × (List Mm) × (Nat → Prop)) => match s_ with | (i, vo, ko, lo, G) => m.length - i) (0, va, ka, la_, Ga) ⟨rfl, rfl, rfl, rfl, trivial⟩ ?_ ?_
    ·
      exact ⟨(by omega), ow, hxa, bf_hxa, fga, by simpa [adM] using hlo, Nx.refl _ _, Mo.refl _ _⟩
    rintro ⟨i, vo, ko, lo, G⟩ HL2 hI2 K15 hN15 hE15
    obtain ⟨hi, ow, hxo, bf_hxo, fgw, hlo, nxl_ow, hlm2⟩ := hI2
    have df45 := DF.app (df1) (bf_hl.mono hm0.size) nxl_ow
    have df46 := DF.app (df2) (bf_hr.mono hm0.size) nxl_ow
    have df47 := DF.app (df3) (bf_hx.mono hm0.size) nxl_ow
    have df48 := DF.app (df4) (bf_hy.mono hm0.size) nxl_ow
    have df49 := DF.app (fga) (bf_hxa.mono (by omega)) nxl_ow
    have nx50 : Nx 0 H0.size ko := Nx.tr (nx5) nxl_ow hm0.size
    replace hl := hl.upL hlm2 (DFL.cons df1 DFL.nil)
    replace hr := hr.upL hlm2 (DFL.cons df2 DFL.nil)
    replace hx := fun x hx0 => (hx x hx0).upL hlm2 (DFL.cons df3 DFL.nil)
    replace hy := fun x hy0 => (hy x hy0).upL hlm2 (DFL.cons df4 DFL.nil)
    replace hxa := fun x hxa_ => (hxa x hxa_).upL hlm2 (DFL.cons fga DFL.nil)
    replace hm0 := (Mo.trL (ks := []) (hm0.mdn []) hlm2 (MIL.cons (MI.app MI.z (nx5) (Nat.le_refl _)) MIL.nil)).nil
    have hz7 := hlm2.size
    have hle_ow := ow.le
    have nx51 := nxl_ow
    refine CW.seq (fun K16 hK16 hE16 => ?_)
    refine CW.region ?_
    refine LR.v (Y.lss rfl rfl rfl) (Wd.u rfl) rfl rfl ?_
    refine LR.nil ?_
    refine hK16 _ _ ?_
    refine CW.seq (fun K17 hK17 hE17 => ?_)
    refine CW.condp rfl (fun c27 => ?_) (fun c27 => ?_)
    ·
      refine CW.skip ?_
      refine hK17 _ _ ?_
      refine CW.seq (fun K18 hK18 hE18 => ?_)
      refine CW.block (fun K19 hK19 hX19 hE19 => ?_)
      refine CW.seq (fun K20 hK20 hE20 => ?_)
      refine CW.region ?_
      have hil : i < m.length := by omega
      have hmi := hy m[i] (List.getElem_mem hil)
      have hki := hmi.k
      have hdi := hdm m[i] (List.getElem_mem hil)
      have hol : lo.length ≤ l.length + i := by
        have h9 := adM_len ((m.take i).map Mm.c) (l.map Mm.c)
        rw [← hlo] at h9
        simp only [List.length_map, List.length_take] at h9
        omega
      refine LR.e (g := fun ad => .pointer (some ad)) (Y.indexAddrF hr (i) rfl Try.runUnderlying40 Try.sizeOf47 rfl rfl (by first | rfl | omega) (by first | omega | (simp; omega) | (simp; done))) (Wd.u rfl) rfl rfl (fun ad28 pt28 => ?_)
      have bf_pt28 := bf_hr
      refine LR.v (Y.loadN pt28.pt rfl Try.isAgg47 Try.sizeOf47 (fM_len _) rfl) (Wd.u rfl) rfl rfl ?_
      refine LR.z (Z.allocv rfl Try.zeroValue47) (Wd.u rfl) rfl rfl (fun v9 H9 r9 => ?_)
      obtain ⟨rfl, hd, hs9, ob9, hH9⟩ := r9
      have hzs9 : H9.size = HL2.size + 1 := by rw [hH9]; simp
      have df52 := (DF.new (bf_hl.mono hm0.size) : DF _ (HL2.size + 1))
      have df53 := (DF.new (bf_hr.mono hm0.size) : DF _ (HL2.size + 1))
      have df54 := (DF.new (bf_hx.mono hm0.size) : DF _ (HL2.size + 1))
      have df55 := (DF.new (bf_hy.mono hm0.size) : DF _ (HL2.size + 1))
      have dj56 : Dj ko (HL2.size + 1) := Dj.new ow.le
      have df57 := (DF.new (bf_hxa.mono (by omega)) : DF _ (HL2.size + 1))
      have df58 := (DF.new (bf_hxo.mono (by omega)) : DF _ (HL2.size + 1))
      have df59 := (DF.new (bf_pt28.mono hm0.size) : DF _ (HL2.size + 1))
      have nx60 : Nx 0 H0.size (HL2.size + 1) := Nx.new hm0.size
      have nx61 : Nx 0 HL1.size (HL2.size + 1) := Nx.new hlm2.size
      replace hl := hl.nw hs9
      replace hr := hr.nw hs9
      replace hx := fun x hx0 => (hx x hx0).nw hs9
      replace hy := fun x hy0 => (hy x hy0).nw hs9
      replace ow := ow.nw hs9
      replace hxa := fun x hxa_ => (hxa x hxa_).nw hs9
      replace hxo := fun x hxo_ => (hxo x hxo_).nw hs9
      replace pt28 := pt28.nw hs9
      replace hm0 := hm0.tr hs9
      replace hlm2 := hlm2.trN hs9
      have hz8 := hs9.size
      refine LR.s (S.var hd (_) (fM m[i]) rfl rfl rfl rfl (fM_one m[i]) Try.sizeOf47 (fM_len _) (by decide) ((splice_all2 (fM_len _).symm))) (Wd.u rfl) rfl (fun H9_3 r9_3 => ?_)
      obtain ⟨hd, hs9_3⟩ := r9_3
      replace hs9_3 := hs9_3.md1
      replace hl := hl.upL hs9_3 (DFL.cons df52 DFL.nil)
      replace hr := hr.upL hs9_3 (DFL.cons df53 DFL.nil)
      replace hx := fun x hx0 => (hx x hx0).upL hs9_3 (DFL.cons df54 DFL.nil)
      replace hy := fun x hy0 => (hy x hy0).upL hs9_3 (DFL.cons df55 DFL.nil)
      replace ow := ow.upL hs9_3 (DL.cons dj56 DL.nil)
      replace hxa := fun x hxa_ => (hxa x hxa_).upL hs9_3 (DFL.cons df57 DFL.nil)
      replace hxo := fun x hxo_ => (hxo x hxo_).upL hs9_3 (DFL.cons df58 DFL.nil)
      replace pt28 := pt28.upL hs9_3 (DFL.cons df59 DFL.nil)
      replace hm0 := (Mo.trL (ks := []) (hm0.mdn []) hs9_3 (MIL.cons (MI.app MI.z (nx60) (Nat.le_refl _)) MIL.nil)).nil
      replace hlm2 := hlm2.trL hs9_3 (MIL.cons (MI.app MI.z (nx61) (Nat.le_refl _)) MIL.nil)
      have hz9 := hs9_3.size
      refine LR.nil ?_
      refine hK20 _ _ ?_
      refine CW.seq (fun K21 hK21 hE21 => ?_)
      refine CW.seq (fun K22 hK22 hE22 => ?_)
      refine CW.region ?_
      refine LR.v (Y.fieldAddr hd.pt rfl Try.runUnderlying47 rfl rfl Try.sizeOf25 (by decide) rfl) (Wd.u rfl) rfl rfl ?_
      refine LR.v (Y.cast (v2 := idV m[i].k) (Y.loadN (hd.pt.take 32) rfl Try.isAgg25 Try.sizeOf25 (by simp [kc_len]) rfl) (congrArg (fun x : List Value => Value.agg x.toArray) (kc_at _ hki))) (Wd.u rfl) rfl rfl ?_
      refine LR.v (Y.build (v := idV Z32) rfl rfl (by intro w; kernel_rfl)) (Wd.u rfl) rfl rfl ?_
      refine LR.v (Y.aeql rfl Try.eqGuardType25 (fun w => run_equalIn_id 9998 Try.underlying25 Try.underlying5 Try.sizeOf5 Try.isAgg5 (hki) (Z32_len) w) rfl rfl) (Wd.u rfl) rfl rfl ?_
      refine LR.nil ?_
      refine hK22 _ _ ?_
      refine CW.condp rfl (fun c33 => ?_) (fun c33 => ?_)
      ·
        refine CW.exit (hE21 (.exit 3) nofun _ _ (hX19 _ _ ?_))
        refine hK18 _ _ ?_
        refine CW.region ?_
        refine LR.v (Y.addi rfl rfl rfl (by omega)) (Wd.u rfl) rfl rfl ?_
        refine LR.v (Y.move rfl rfl) (Wd.u rfl) rfl rfl ?_
        refine LR.nil ?_
        refine QN.sub (hN15 (i + 1, vo, ko, lo, G) _ ?_ ?_) ⟨rfl, rfl, (iv (by omega)), (iv (by omega)), trivial⟩
        · exact ⟨(by omega), ow, hxo, (bf_hxo.mono (by omega)), fgw, by rw [adM_step hil, ← hlo, adM1, if_pos (show m[i].c.1 = Z32 from by simpa using c33)], nx51, hlm2⟩
        · first | omega | (simp only; omega) | (simp; omega)
      ·
        have hnz : m[i].k ≠ Z32 := by simpa using c33
        refine CW.skip ?_
        refine hK21 _ _ ?_
        refine CW.seq (fun K23 hK23 hE23 => ?_)
        refine CW.region ?_
        refine LR.v (Y.move rfl rfl) (Wd.u rfl) rfl rfl ?_
        refine LR.v (Y.fieldAddr hd.pt rfl Try.runUnderlying47 rfl rfl Try.sizeOf25 (by decide) rfl) (Wd.u rfl) rfl rfl ?_
        refine LR.v (Y.cast (v2 := idV m[i].k) (Y.loadN (hd.pt.take 32) rfl Try.isAgg25 Try.sizeOf25 (by simp [kc_len]) rfl) (congrArg (fun x : List Value => Value.agg x.toArray) (kc_at _ hki))) (Wd.u rfl) rfl rfl ?_
        -- call selvage/rerere.place
        refine LR.call rfl Try.call34 rfl (Wd.u rfl) rfl rfl (place_ct vo lo m[i].k w0 _ ow.rd.any hki (fun x h => (hxo x h).k)) (fun v38 H38 r38 => ?_)
        obtain ⟨rfl, hs38⟩ := r38
        replace hl := hl.nw hs38
        replace hr := hr.nw hs38
        replace hx := fun x hx0 => (hx x hx0).nw hs38
        replace hy := fun x hy0 => (hy x hy0).nw hs38
        replace ow := ow.nw hs38
        replace hxa := fun x hxa_ => (hxa x hxa_).nw hs38
        replace hxo := fun x hxo_ => (hxo x hxo_).nw hs38
        replace hd := hd.nw hs38
        replace hm0 := hm0.tr hs38
        replace hlm2 := hlm2.trN hs38
        have hz10 := hs38.size
        refine LR.v (Y.move rfl rfl) (Wd.u rfl) rfl rfl ?_
        refine LR.v (Y.extract rfl rfl rfl) (Wd.u rfl) rfl rfl ?_
        refine LR.v (Y.extract rfl rfl rfl) (Wd.u rfl) rfl rfl ?_
        refine LR.v (Y.assign rfl rfl) (Wd.u rfl) rfl rfl ?_
        refine LR.v (Y.assign rfl rfl) (Wd.u rfl) rfl rfl ?_
        refine LR.nil ?_
        refine hK23 _ _ ?_
        refine CW.seq (fun K24 hK24 hE24 => ?_)
        refine CW.region ?_
        refine LR.v (Y.move rfl rfl) (Wd.u rfl) rfl rfl ?_
        refine LR.nil ?_
        refine hK24 _ _ ?_
        refine CW.cond rfl (fun c41 => ?_) (fun c41 => ?_)
        ·
          have his : (placeL (lo.map Mm.c) m[i].k).2 = true := by simpa using c41
          have hp0 := place_lt his
          rw [List.length_map] at hp0
          obtain ⟨p, hp⟩ : ∃ p, (placeL (lo.map Mm.c) m[i].k).1 = p := ⟨_, rfl⟩
          rw [hp] at hp0
          refine CW.region ?_
          refine LR.v (Y.move rfl rfl) (Wd.u rfl) rfl rfl ?_
          refine LR.v (Y.move rfl rfl) (Wd.u rfl) rfl rfl ?_
          refine LR.v (Y.loadN hd.pt rfl Try.isAgg47 Try.sizeOf47 (fM_len _) rfl) (Wd.u rfl) rfl rfl ?_
          -- call selvage/rerere.own
          refine LR.call rfl Try.call33 rfl (Wd.u rfl) rfl rfl (own_ct m[i] w0 _ (hy m[i] (List.getElem_mem hil)).k (hy m[i] (List.getElem_mem hil)).d.any hdi) (fun v45 H45 r45 => ?_)
          obtain ⟨s45, k45, rfl, ow45, hkx45, hs45⟩ := r45
          have df62 := DF.app (DF.z) (bf_hl.mono hm0.size) hkx45
          have df63 := DF.app (DF.z) (bf_hr.mono hm0.size) hkx45
          have df64 := DF.app (DF.z) (bf_hx.mono hm0.size) hkx45
          have df65 := DF.app (DF.z) (bf_hy.mono hm0.size) hkx45
          have dj66 : Dj ko k45 := Dj.app (Dj.z) ow.le hkx45
          have df67 := DF.app (DF.z) (bf_hxa.mono (by omega)) hkx45
          have df68 := DF.app (DF.z) (bf_hxo.mono (by omega)) hkx45
          have dj69 : Dj (HL2.size + 1) k45 := Dj.app (Dj.z) hd.lt hkx45
          have nx70 : Nx 0 H0.size k45 := Nx.tr (Nx.refl 0 _) hkx45 hm0.size
          have nx71 : Nx 0 HL1.size k45 := Nx.tr (Nx.refl 0 _) hkx45 hlm2.size
          replace hl := hl.nw hs45
          replace hr := hr.nw hs45
          replace hx := fun x hx0 => (hx x hx0).nw hs45
          replace hy := fun x hy0 => (hy x hy0).nw hs45
          replace ow := ow.nw hs45
          replace hxa := fun x hxa_ => (hxa x hxa_).nw hs45
          replace hxo := fun x hxo_ => (hxo x hxo_).nw hs45
          replace hd := hd.nw hs45
          replace hm0 := hm0.tr hs45
          replace hlm2 := hlm2.trN hs45
          have hz11 := hs45.size
          have hle_ow45 := ow45.le
          refine LR.v (Y.owAddr ow (p) rfl Try.runUnderlying40 Try.sizeOf47 rfl rfl (by rw [hp]) (by first | omega | (simp; omega) | (simp; done))) (Wd.u rfl) rfl rfl ?_
          refine LR.s (S.owwN ow p 0 (⟨m[i].k, m[i].d, s45⟩ : Mm) (fM ⟨m[i].k, m[i].d, s45⟩) rfl rfl rfl rfl (fM_one _) Try.sizeOf47 (fM_len _) hp0 (by decide) (splice_all2 (by rw [fM_len, fM_len])).symm) (Wd.u rfl) rfl (fun H13_5 r13_5 => ?_)
          obtain ⟨ow, hs13_5⟩ := r13_5
          replace hs13_5 := hs13_5.md
          replace hl := hl.upL hs13_5 (DFL.cons df45 DFL.nil)
          replace hr := hr.upL hs13_5 (DFL.cons df46 DFL.nil)
          replace hx := fun x hx0 => (hx x hx0).upL hs13_5 (DFL.cons df47 DFL.nil)
          replace hy := fun x hy0 => (hy x hy0).upL hs13_5 (DFL.cons df48 DFL.nil)
          replace hxa := fun x hxa_ => (hxa x hxa_).upL hs13_5 (DFL.cons df49 DFL.nil)
          replace hxo := fun x hxo_ => (hxo x hxo_).upL hs13_5 (DFL.cons fgw DFL.nil)
          replace hd := hd.upL hs13_5 (DL.cons dj56.symm DL.nil)
          replace ow45 := ow45.upL hs13_5 (DL.cons dj66.symm DL.nil)
          replace hm0 := (Mo.trL (ks := []) (hm0.mdn []) hs13_5 (MIL.cons (MI.app MI.z (nx50) (Nat.le_refl _)) MIL.nil)).nil
          replace hlm2 := hlm2.trL hs13_5 (MIL.cons (MI.app (MI.root (by simp)) (nx51) (Nat.le_refl _)) MIL.nil)
          have hz12 := hs13_5.size
          refine LR.nil ?_
          refine hK19 _ _ ?_
          refine hK18 _ _ ?_
          refine CW.region ?_
          refine LR.v (Y.addi rfl rfl rfl (by omega)) (Wd.u rfl) rfl rfl ?_
          refine LR.v (Y.move rfl rfl) (Wd.u rfl) rfl rfl ?_
          refine LR.nil ?_
          refine QN.sub (hN15 (i + 1, vo, ko, lo.set p ⟨m[i].k, m[i].d, s45⟩, fun b => G b ∨ b + 1 = k45) _ ?_ ?_) ⟨rfl, rfl, (iv (by omega)), (iv (by omega)), trivial⟩
          · exact ⟨(by omega), ow, setM p hxo (fun b e => .inl e) ⟨hmi.k, ow45.rd.imp (fun b _ e => .inr e)⟩, BF.or1 (bf_hxo.mono (by omega)) ow45.le, DF.or1 (fgw) (dj66), by rw [adM_step hil, ← hlo]; exact (adM1_hit (x := ⟨m[i].k, m[i].d, s45⟩) hnz his hp).symm, nx51, hlm2⟩
          · first | omega | (simp only; omega) | (simp; omega)
        ·
          have his : (placeL (lo.map Mm.c) m[i].k).2 = false := by simpa using c41
          have hp0 := place_le (lo.map Mm.c) m[i].k
          rw [List.length_map] at hp0
          obtain ⟨p, hp⟩ : ∃ p, (placeL (lo.map Mm.c) m[i].k).1 = p := ⟨_, rfl⟩
          rw [hp] at hp0
          refine CW.region ?_
          refine LR.v (Y.move rfl rfl) (Wd.u rfl) rfl rfl ?_
          refine LR.v (Y.cast (v2 := .int .i64 p) (Y.move rfl rfl) (by rw [hp]; rfl)) (Wd.u rfl) rfl rfl ?_
          refine LR.v (Y.loadN hd.pt rfl Try.isAgg47 Try.sizeOf47 (fM_len _) rfl) (Wd.u rfl) rfl rfl ?_
          -- call selvage/rerere.own
          refine LR.call rfl Try.call33 rfl (Wd.u rfl) rfl rfl (own_ct m[i] w0 _ (hy m[i] (List.getElem_mem hil)).k (hy m[i] (List.getElem_mem hil)).d.any hdi) (fun v50 H50 r50 => ?_)
          obtain ⟨s50, k50, rfl, ow50, hkx50, hs50⟩ := r50
          have df72 := DF.app (DF.z) (bf_hl.mono hm0.size) hkx50
          have df73 := DF.app (DF.z) (bf_hr.mono hm0.size) hkx50
          have df74 := DF.app (DF.z) (bf_hx.mono hm0.size) hkx50
          have df75 := DF.app (DF.z) (bf_hy.mono hm0.size) hkx50
          have dj76 : Dj ko k50 := Dj.app (Dj.z) ow.le hkx50
          have df77 := DF.app (DF.z) (bf_hxa.mono (by omega)) hkx50
          have df78 := DF.app (DF.z) (bf_hxo.mono (by omega)) hkx50
          have dj79 : Dj (HL2.size + 1) k50 := Dj.app (Dj.z) hd.lt hkx50
          have nx80 : Nx 0 H0.size k50 := Nx.tr (Nx.refl 0 _) hkx50 hm0.size
          have nx81 : Nx 0 HL1.size k50 := Nx.tr (Nx.refl 0 _) hkx50 hlm2.size
          replace hl := hl.nw hs50
          replace hr := hr.nw hs50
          replace hx := fun x hx0 => (hx x hx0).nw hs50
          replace hy := fun x hy0 => (hy x hy0).nw hs50
          replace ow := ow.nw hs50
          replace hxa := fun x hxa_ => (hxa x hxa_).nw hs50
          replace hxo := fun x hxo_ => (hxo x hxo_).nw hs50
          replace hd := hd.nw hs50
          replace hm0 := hm0.tr hs50
          replace hlm2 := hlm2.trN hs50
          have hz13 := hs50.size
          have hle_ow50 := ow50.le
          refine LR.z (Z.litz _ [(⟨m[i].k, m[i].d, s50⟩ : Mm)] rfl inf40 rfl rfl rfl (by decide) (by decide) fM_len fM_one rfl) (Wd.u rfl) rfl rfl (fun v51 H51 r51 => ?_)
          obtain ⟨nw51, hs51, ob51, hH51⟩ := r51
          have hzs51 : H51.size = H50.size + 1 := by rw [hH51]; simp
          have df82 := (DF.new (bf_hl.mono hm0.size) : DF _ (H50.size + 1))
          have df83 := (DF.new (bf_hr.mono hm0.size) : DF _ (H50.size + 1))
          have df84 := (DF.new (bf_hx.mono hm0.size) : DF _ (H50.size + 1))
          have df85 := (DF.new (bf_hy.mono hm0.size) : DF _ (H50.size + 1))
          have dj86 : Dj ko (H50.size + 1) := Dj.new ow.le
          have df87 := (DF.new (bf_hxa.mono (by omega)) : DF _ (H50.size + 1))
          have df88 := (DF.new (bf_hxo.mono (by omega)) : DF _ (H50.size + 1))
          have dj89 : Dj (HL2.size + 1) (H50.size + 1) := Dj.new hd.lt
          have dj90 : Dj k50 (H50.size + 1) := Dj.new ow50.le
          have nx91 : Nx 0 H0.size (H50.size + 1) := Nx.new hm0.size
          have nx92 : Nx 0 HL1.size (H50.size + 1) := Nx.new hlm2.size
          replace hl := hl.nw hs51
          replace hr := hr.nw hs51
          replace hx := fun x hx0 => (hx x hx0).nw hs51
          replace hy := fun x hy0 => (hy x hy0).nw hs51
          replace ow := ow.nw hs51
          replace hxa := fun x hxa_ => (hxa x hxa_).nw hs51
          replace hxo := fun x hxo_ => (hxo x hxo_).nw hs51
          replace hd := hd.nw hs51
          replace ow50 := ow50.nw hs51
          replace hm0 := hm0.tr hs51
          replace hlm2 := hlm2.trN hs51
          have hz14 := hs51.size
          -- call slices.Insert[[]selvage/api.Memory,selvage/api.Memory]
          refine LR.call rfl Try.call35 rfl (Wd.u rfl) rfl rfl (insert_ct ko _ vo _ lo ⟨m[i].k, m[i].d, s50⟩ p w0 _ ow nw51 (dj86) hp0 ⟨ob51, by rw [hH51]; simp⟩ (by omega)) (fun v52 H52 r52 => ?_)
          have ql93 := ow.le
          have ql94 := hd.lt
          have ql95 := ow50.le
          have ql96 := nw51.le
          obtain ⟨v52_, ko2, rfl, ow, hkr52, hs52⟩ := r52
          have df97 := DF.app (df45) (bf_hl.mono hm0.size) hkr52
          have df98 := DF.app (df46) (bf_hr.mono hm0.size) hkr52
          have df99 := DF.app (df47) (bf_hx.mono hm0.size) hkr52
          have df100 := DF.app (df48) (bf_hy.mono hm0.size) hkr52
          have df101 := DF.app (df49) (bf_hxa.mono (by omega)) hkr52
          have df102 := DF.app (fgw) (bf_hxo.mono (by omega)) hkr52
          have dj103 : Dj (HL2.size + 1) ko2 := Dj.app (dj56.symm) ql94 hkr52
          have dj104 : Dj k50 ko2 := Dj.app (dj76.symm) ql95 hkr52
          have dj105 : Dj (H50.size + 1) ko2 := Dj.app (dj86.symm) ql96 hkr52
          have nx106 : Nx 0 H0.size ko2 := Nx.tr (nx50) hkr52 hm0.size
          have nx107 : Nx ka HL1.size ko2 := Nx.tr (nx51) hkr52 hlm2.size
          replace hl := hl.upL hs52 (DFL.cons df45 DFL.nil)
          replace hr := hr.upL hs52 (DFL.cons df46 DFL.nil)
          replace hx := fun x hx0 => (hx x hx0).upL hs52 (DFL.cons df47 DFL.nil)
          replace hy := fun x hy0 => (hy x hy0).upL hs52 (DFL.cons df48 DFL.nil)
          replace hxa := fun x hxa_ => (hxa x hxa_).upL hs52 (DFL.cons df49 DFL.nil)
          replace hxo := fun x hxo_ => (hxo x hxo_).upL hs52 (DFL.cons fgw DFL.nil)
          replace hd := hd.upL hs52 (DL.cons dj56.symm DL.nil)
          replace ow50 := ow50.upL hs52 (DL.cons dj76.symm DL.nil)
          replace nw51 := nw51.upL hs52 (DL.cons dj86.symm DL.nil)
          replace hm0 := (Mo.trL (ks := []) (hm0.mdn []) hs52 (MIL.cons (MI.app MI.z (nx50) (Nat.le_refl _)) MIL.nil)).nil
          replace hlm2 := hlm2.trL hs52 (MIL.cons (MI.app (MI.root (by simp)) (nx51) (Nat.le_refl _)) MIL.nil)
          have hz15 := hs52.size
          have hle_ow := ow.le
          refine LR.v (Y.assign rfl rfl) (Wd.u rfl) rfl rfl ?_
          refine LR.nil ?_
          refine hK19 _ _ ?_
          refine hK18 _ _ ?_
          refine CW.region ?_
          refine LR.v (Y.addi rfl rfl rfl (by omega)) (Wd.u rfl) rfl rfl ?_
          refine LR.v (Y.move rfl rfl) (Wd.u rfl) rfl rfl ?_
          refine LR.nil ?_
          refine QN.sub (hN15 (i + 1, v52, ko2, lo.take p ++ ⟨m[i].k, m[i].d, s50⟩ :: lo.drop p, fun b => G b ∨ b + 1 = k50) _ ?_ ?_) ⟨rfl, rfl, (iv (by omega)), (iv (by omega)), trivial⟩
          · exact ⟨(by omega), ow, insM p hxo (fun b e => .inl e) ⟨hmi.k, ow50.rd.imp (fun b _ e => .inr e)⟩, BF.or1 (bf_hxo.mono (by omega)) ow50.le, DF.or1 (df102) (dj104.symm), by rw [adM_step hil, ← hlo]; exact (adM1_miss (x := ⟨m[i].k, m[i].d, s50⟩) hnz his hp).symm, nx107, hlm2⟩
          · first | omega | (simp only; omega) | (simp; omega)
    ·
      have hil : i = m.length := by omega
      rw [hil, List.take_length] at hlo
      refine CW.exit (hE17 (.exit 2) nofun _ _ (hE15 (.exit 2) nofun _ _ (hX14 _ _ ?_)))
      refine hK12 _ _ ?_
      refine CW.seq (fun K25 hK25 hE25 => ?_)
      refine CW.region ?_
      refine LR.v (Y.move rfl rfl) (Wd.u rfl) rfl rfl ?_
      refine LR.v (Y.assign rfl rfl) (Wd.u rfl) rfl rfl ?_
      refine LR.nil ?_
      refine hK25 _ _ ?_
      refine CW.ret (hret .ret (.inr rfl) _ _ _ (res1 rfl rfl) ?_)
      exact ⟨vo, ko, lo, G, rfl, ow, nx50, hxo, bf_hxo, fgw, hlo, hm0⟩

set_option maxHeartbeats 8000000 in
theorem rmadd_ct (v1 v2 : Value) (l m : List Mm) (w0 : World) (H0 : Heap)
    (hl : RdT H0 fM 33 v1 l) (hr : RdT H0 fM 33 v2 m) (hx : ∀ x ∈ l, MmR (fun _ => True) H0 x) (hy : ∀ x ∈ m, MmR (fun _ => True) H0 x) (hll : l.length ≤ 1000) (hml : m.length ≤ 1000) (hdl : ∀ x ∈ l, x.d.length ≤ 140737488355328) (hdm : ∀ x ∈ m, x.d.length ≤ 140737488355328) :
    Ct Try.prog w0 16 #[v1, v2] H0 (fun r H2 => ∃ vr : Value, ∃ kr : Nat, ∃ lo : List Mm, ∃ G : Nat → Prop, r = vr ∧ (Ow kr 47 H2 fM 33 vr lo) ∧ (Nx 0 H0.size kr) ∧ (∀ x ∈ lo, MmR G H2 x) ∧ (BF G H2.size) ∧ (DF G kr) ∧ (lo.map Mm.c = adM (l.map Mm.c) (m.map Mm.c)) ∧ Nw H0 H2) := by
  refine Ct.enter (args := [v1, v2]) Try.func16 rfl rfl rfl ?_
  intro Q0 hret
  have hm0 : Nw H0 H0 := Mo.refl _ _
  replace hl := hl.bnd
  have bf_hl := Rd.bf hl
  replace hr := hr.bnd
  have bf_hr := Rd.bf hr
  replace hx := fun x hx0 => (hx x hx0).bnd
  have bf_hx : BF (fun b => True ∧ b < H0.size) H0.size := fun b h => h.2
  replace hy := fun x hy0 => (hy x hy0).bnd
  have bf_hy : BF (fun b => True ∧ b < H0.size) H0.size := fun b h => h.2
  refine CW.seq (fun K1 hK1 hE1 => ?_)
  refine CW.region ?_
  refine LR.v (Y.assign rfl rfl) (Wd.u rfl) rfl rfl ?_
  refine LR.nil ?_
  refine hK1 _ _ ?_
  refine CW.seq (fun K2 hK2 hE2 => ?_)
  refine CW.region ?_
  refine LR.z (Z.litw _ (([] : List Mm)) rfl inf40 rfl rfl rfl (by decide) (by decide) fM_len fM_one (rfl)) (Wd.u rfl) rfl rfl (fun v10 H10 r10 => ?_)
  obtain ⟨ow, hs10, ob10, hH10⟩ := r10
  have hzs10 : H10.size = H0.size + 1 := by rw [hH10]; simp
  have df1 := (DF.new (bf_hl.mono hm0.size) : DF _ (H0.size + 1))
  have df2 := (DF.new (bf_hr.mono hm0.size) : DF _ (H0.size + 1))
  have df3 := (DF.new (bf_hx.mono hm0.size) : DF _ (H0.size + 1))
  have df4 := (DF.new (bf_hy.mono hm0.size) : DF _ (H0.size + 1))
  have nx5 : Nx 0 H0.size (H0.size + 1) := Nx.new hm0.size
  replace hl := hl.nw hs10
  replace hr := hr.nw hs10
  replace hx := fun x hx0 => (hx x hx0).nw hs10
  replace hy := fun x hy0 => (hy x hy0).nw hs10
  replace hm0 := hm0.tr hs10
  have hz1 := hs10.size
  refine LR.v (Y.move rfl rfl) (Wd.u rfl) rfl rfl ?_
  refine LR.z (Z.apnd ow hl rfl inf40 rfl rfl (by simp; omega) (by simp; omega)) (Wd.u rfl) rfl rfl (fun v12 H12 r12 => ?_)
  obtain ⟨k12, ow, hk12, hs12⟩ := r12
  replace hk12 : Nx (H0.size + 1) H10.size k12 := hk12
  replace hs12 := hs12.md
  have df6 := DF.app (df1) (bf_hl.mono hm0.size) hk12
  have df7 := DF.app (df2) (bf_hr.mono hm0.size) hk12
  have df8 := DF.app (df3) (bf_hx.mono hm0.size) hk12
  have df9 := DF.app (df4) (bf_hy.mono hm0.size) hk12
  have nx10 : Nx 0 H0.size k12 := Nx.tr (nx5) hk12 hm0.size
  replace hl := hl.upL hs12 (DFL.cons df1 DFL.nil)
  replace hr := hr.upL hs12 (DFL.cons df2 DFL.nil)
  replace hx := fun x hx0 => (hx x hx0).upL hs12 (DFL.cons df3 DFL.nil)
  replace hy := fun x hy0 => (hy x hy0).upL hs12 (DFL.cons df4 DFL.nil)
  replace hm0 := (Mo.trL (ks := []) (hm0.mdn []) hs12 (MIL.cons (MI.app MI.z (nx5) (Nat.le_refl _)) MIL.nil)).nil
  have hz2 := hs12.size
  have hle_ow := ow.le
  rw [List.nil_append] at ow
  refine LR.v (Y.assign rfl rfl) (Wd.u rfl) rfl rfl ?_
  refine LR.nil ?_
  refine hK2 _ _ ?_
  refine CW.seq (fun K3 hK3 hE3 => ?_)
  refine CW.seq (fun K4 hK4 hE4 => ?_)
  refine CW.region ?_
  refine LR.v (Y.assign rfl rfl) (Wd.u rfl) rfl rfl ?_
  refine LR.nil ?_
  refine hK4 _ _ ?_
  refine CW.block (fun K5 hK5 hX5 hE5 => ?_)
  refine CW.loop (fun (s_ : (Nat) × (Value) × (Nat) × (List Mm) × (Nat → Prop)) => match s_ with | (i, vo, ko, lo, G) => [(1, v2), (5, vo), (6, .int .i64 i)])
    (fun (s_ : (Nat) × (Value) × (Nat) × (List Mm) × (Nat → Prop)) (H : Heap) => match s_ with | (i, vo, ko, lo, G) => (i ≤ m.length) ∧ (Ow ko 47 H fM 33 vo lo) ∧ (∀ x ∈ lo, MmR G H x) ∧ (BF G H.size) ∧ (DF G ko) ∧ (lo.map Mm.c = adM (l.map Mm.c) ((m.take i).map Mm.c)) ∧ (Nx k12 H12.size ko) ∧ Mo (Ms [k12]) H12 H)
    (fun (s_ : (Nat) × (Value) × (Nat) × (List Mm) × (Nat → Prop)) => match s_ with | (i, vo, ko, lo, G) => m.length - i) (0, v12, k12, l, fun b => True ∧ b < H0.size) ⟨rfl, rfl, rfl, trivial⟩ ?_ ?_
  ·
    exact ⟨(by omega), ow, hx, (fun b e => Nat.lt_of_lt_of_le e.2 hm0.size), (df8), by simp [adM], Nx.refl _ _, Mo.refl _ _⟩
  rintro ⟨i, vo, ko, lo, G⟩ HL1 hI1 K6 hN6 hE6
  obtain ⟨hi, ow, hxo, bf_hxo, fgw, hlo, nxl_ow, hlm1⟩ := hI1
  have df11 := DF.app (df6) (bf_hl.mono hm0.size) nxl_ow
  have df12 := DF.app (df7) (bf_hr.mono hm0.size) nxl_ow
  have df13 := DF.app (df8) (bf_hx.mono hm0.size) nxl_ow
  have df14 := DF.app (df9) (bf_hy.mono hm0.size) nxl_ow
  have nx15 : Nx 0 H0.size ko := Nx.tr (nx10) nxl_ow hm0.size
  replace hl := hl.upL hlm1 (DFL.cons df6 DFL.nil)
  replace hr := hr.upL hlm1 (DFL.cons df7 DFL.nil)
  replace hx := fun x hx0 => (hx x hx0).upL hlm1 (DFL.cons df8 DFL.nil)
  replace hy := fun x hy0 => (hy x hy0).upL hlm1 (DFL.cons df9 DFL.nil)
  replace hm0 := (Mo.trL (ks := []) (hm0.mdn []) hlm1 (MIL.cons (MI.app MI.z (nx10) (Nat.le_refl _)) MIL.nil)).nil
  have hz3 := hlm1.size
  have hle_ow := ow.le
  have nx16 := nxl_ow
  refine CW.seq (fun K7 hK7 hE7 => ?_)
  refine CW.seq (fun K8 hK8 hE8 => ?_)
  refine CW.region ?_
  refine LR.v (Y.move rfl rfl) (Wd.u rfl) rfl rfl ?_
  refine LR.v (Y.move rfl rfl) (Wd.u rfl) rfl rfl ?_
  refine LR.v (Y.len hr rfl Try.runUnderlying40 rfl) (Wd.u rfl) rfl rfl ?_
  refine LR.v (Y.lss rfl rfl rfl) (Wd.u rfl) rfl rfl ?_
  refine LR.nil ?_
  refine hK8 _ _ ?_
  refine CW.condp rfl (fun c16 => ?_) (fun c16 => ?_)
  ·
    refine CW.skip ?_
    refine hK7 _ _ ?_
    refine CW.seq (fun K9 hK9 hE9 => ?_)
    refine CW.block (fun K10 hK10 hX10 hE10 => ?_)
    refine CW.seq (fun K11 hK11 hE11 => ?_)
    refine CW.seq (fun K12 hK12 hE12 => ?_)
    refine CW.region ?_
    refine LR.v (Y.move rfl rfl) (Wd.u rfl) rfl rfl ?_
    refine LR.v (Y.move rfl rfl) (Wd.u rfl) rfl rfl ?_
    have hil : i < m.length := by omega
    have hmi := hy m[i] (List.getElem_mem hil)
    have hki := hmi.k
    have hdi := hdm m[i] (List.getElem_mem hil)
    have hol : lo.length ≤ l.length + i := by
      have h9 := adM_len ((m.take i).map Mm.c) (l.map Mm.c)
      rw [← hlo] at h9
      simp only [List.length_map, List.length_take] at h9
      omega
    refine LR.e (g := fun ad => .pointer (some ad)) (Y.indexAddrF hr (i) rfl Try.runUnderlying40 Try.sizeOf47 rfl rfl (by first | rfl | omega) (by first | omega | (simp; omega) | (simp; done))) (Wd.u rfl) rfl rfl (fun ad21 pt21 => ?_)
    have bf_pt21 := bf_hr
    refine LR.v (Y.fieldAddr pt21.pt rfl Try.runUnderlying47 rfl rfl Try.sizeOf25 (by decide) rfl) (Wd.u rfl) rfl rfl ?_
    refine LR.v (Y.cast (v2 := idV m[i].k) (Y.loadN ((pt21.pt.drop 0).take 32) rfl Try.isAgg25 Try.sizeOf25 (by simp [kc_len]) rfl) (congrArg (fun x : List Value => Value.agg x.toArray) (kc_at _ hki))) (Wd.u rfl) rfl rfl ?_
    refine LR.v (Y.build (v := idV Z32) rfl rfl (by intro w; kernel_rfl)) (Wd.u rfl) rfl rfl ?_
    refine LR.v (Y.aeql rfl Try.eqGuardType25 (fun w => run_equalIn_id 9998 Try.underlying25 Try.underlying5 Try.sizeOf5 Try.isAgg5 (hki) (Z32_len) w) rfl rfl) (Wd.u rfl) rfl rfl ?_
    refine LR.nil ?_
    refine hK12 _ _ ?_
    refine CW.condp rfl (fun c25 => ?_) (fun c25 => ?_)
    ·
      refine CW.exit (hE11 (.exit 1) nofun _ _ (hX10 _ _ ?_))
      refine hK9 _ _ ?_
      refine CW.region ?_
      refine LR.v (Y.move rfl rfl) (Wd.u rfl) rfl rfl ?_
      refine LR.v (Y.addi rfl rfl rfl (by omega)) (Wd.u rfl) rfl rfl ?_
      refine LR.v (Y.assign rfl rfl) (Wd.u rfl) rfl rfl ?_
      refine LR.nil ?_
      refine QN.sub (hN6 (i + 1, vo, ko, lo, G) _ ?_ ?_) ⟨rfl, rfl, (iv (by omega)), trivial⟩
      · exact ⟨(by omega), ow, hxo, (bf_hxo.mono (by omega)), fgw, by rw [adM_step hil, ← hlo, adM1, if_pos (show m[i].c.1 = Z32 from by simpa using c25)], nx16, hlm1⟩
      · first | omega | (simp only; omega) | (simp; omega)
    ·
      have hnz : m[i].k ≠ Z32 := by simpa using c25
      refine CW.skip ?_
      refine hK11 _ _ ?_
      refine CW.seq (fun K13 hK13 hE13 => ?_)
      refine CW.region_any (fun Hq => Nw HL1 Hq) [14] rfl ?_
      have hq6 : Nw HL1 HL1 := Mo.refl _ _
      refine LH.take 0 (by kernel_rfl) rfl (by kernel_rfl) (by kernel_rfl) (by kernel_rfl) (fun Hq hq => Y.move rfl rfl) (Wd.u rfl) rfl rfl hq6 ?_
      refine LH.take 1 (by kernel_rfl) rfl (by kernel_rfl) (by kernel_rfl) (by kernel_rfl) (fun Hq hq => Y.move rfl rfl) (Wd.u rfl) rfl rfl hq6 ?_
      refine LH.e (g := fun ad => .pointer (some ad)) 2 (by kernel_rfl) rfl (by kernel_rfl) (by kernel_rfl) (by kernel_rfl) (Y.indexAddrF hr (i) rfl Try.runUnderlying40 Try.sizeOf47 rfl rfl (by first | rfl | omega) (by first | omega | (simp; omega) | (simp; done))) (Wd.u rfl) rfl rfl hq6 (fun ad28 pt28 => ?_)
      have bf_pt28 := bf_hr
      refine LH.take 3 (by kernel_rfl) rfl (by kernel_rfl) (by kernel_rfl) (by kernel_rfl) (fun Hq hq => Y.fieldAddr (pt28.pt.nw hq) rfl Try.runUnderlying47 rfl rfl Try.sizeOf25 (by decide) rfl) (Wd.u rfl) rfl rfl hq6 ?_
      refine LH.take 4 (by kernel_rfl) rfl (by kernel_rfl) (by kernel_rfl) (by kernel_rfl) (fun Hq hq => Y.cast (v2 := idV m[i].k) (Y.loadN (((pt28.pt.drop 0).nw hq).take 32) rfl Try.isAgg25 Try.sizeOf25 (by simp [kc_len]) rfl) (congrArg (fun x : List Value => Value.agg x.toArray) (kc_at _ hki))) (Wd.u rfl) rfl rfl hq6 ?_
      refine LH.take 6 (by kernel_rfl) rfl (by kernel_rfl) (by kernel_rfl) (by kernel_rfl) (fun Hq hq => Y.move rfl rfl) (Wd.u rfl) rfl rfl hq6 ?_
      refine LH.take 7 (by kernel_rfl) rfl (by kernel_rfl) (by kernel_rfl) (by kernel_rfl) (fun Hq hq => Y.move rfl rfl) (Wd.u rfl) rfl rfl hq6 ?_
      refine LH.e (g := fun ad => .pointer (some ad)) 8 (by kernel_rfl) rfl (by kernel_rfl) (by kernel_rfl) (by kernel_rfl) (Y.indexAddrF hr (i) rfl Try.runUnderlying40 Try.sizeOf47 rfl rfl (by first | rfl | omega) (by first | omega | (simp; omega) | (simp; done))) (Wd.u rfl) rfl rfl hq6 (fun ad34 pt34 => ?_)
      have bf_pt34 := bf_hr
      refine LH.take 9 (by kernel_rfl) rfl (by kernel_rfl) (by kernel_rfl) (by kernel_rfl) (fun Hq hq => Y.fieldAddr (pt34.pt.nw hq) rfl Try.runUnderlying47 rfl rfl Try.sizeOf22 (by decide) rfl) (Wd.u rfl) rfl rfl hq6 ?_
      refine LH.take 10 (by kernel_rfl) rfl (by kernel_rfl) (by kernel_rfl) (by kernel_rfl) (fun Hq hq => Y.load1 ((fM_pt pt34.pt).nw hq) rfl Try.isAgg22 rfl) (Wd.u rfl) rfl rfl hq6 ?_
      refine LH.two (i := 5) (j := 13) (by kernel_rfl) ?_ ?_
      ·
        refine LO.z rfl (Z.litw _ (([] : List UInt8)) rfl inf22 rfl rfl rfl (by decide) (by decide) fB_len fB_one (rfl)) (Wd.u rfl) rfl rfl (fun v31 H31 r31 => ?_)
        obtain ⟨owd, hs31, ob31, hH31⟩ := r31
        have hzs31 : H31.size = HL1.size + 1 := by rw [hH31]; simp
        have df17 := (DF.new (bf_hl.mono hm0.size) : DF _ (HL1.size + 1))
        have df18 := (DF.new (bf_hr.mono hm0.size) : DF _ (HL1.size + 1))
        have df19 := (DF.new (bf_hx.mono hm0.size) : DF _ (HL1.size + 1))
        have df20 := (DF.new (bf_hy.mono hm0.size) : DF _ (HL1.size + 1))
        have dj21 : Dj ko (HL1.size + 1) := Dj.new ow.le
        have df22 := (DF.new (bf_hxo.mono (by omega)) : DF _ (HL1.size + 1))
        have df23 := (DF.new (bf_pt28.mono hm0.size) : DF _ (HL1.size + 1))
        have df24 := (DF.new (bf_pt34.mono hm0.size) : DF _ (HL1.size + 1))
        have nx25 : Nx 0 H0.size (HL1.size + 1) := Nx.new hm0.size
        have nx26 : Nx 0 H12.size (HL1.size + 1) := Nx.new hlm1.size
        have nx27 : Nx 0 HL1.size (HL1.size + 1) := Nx.new hq6.size
        replace hl := hl.nw hs31
        replace hr := hr.nw hs31
        replace hx := fun x hx0 => (hx x hx0).nw hs31
        replace hy := fun x hy0 => (hy x hy0).nw hs31
        replace ow := ow.nw hs31
        replace hxo := fun x hxo_ => (hxo x hxo_).nw hs31
        replace pt28 := pt28.nw hs31
        replace pt34 := pt34.nw hs31
        replace hm0 := hm0.tr hs31
        replace hlm1 := hlm1.trN hs31
        replace hq6 := hq6.tr hs31
        have hz4 := hs31.size
        refine ⟨.inr hq6, LH.narrow (SH2 := fun Hq => Mo (Ms [(HL1.size + 1)]) H31 Hq) (fun Hq hq => (Mo.trL (ks := []) (hq6.mdn []) hq (MIL.cons (MI.app MI.z (nx27) (Nat.le_refl _)) MIL.nil)).nil) ?_⟩
        have hq6 : Mo (Ms [(HL1.size + 1)]) H31 H31 := Mo.refl _ _
        have nx28 := Nx.refl (HL1.size + 1) H31.size
        refine LH.two (i := 11) (j := 13) (by kernel_rfl) ?_ ?_
        ·
          refine LO.z rfl (Z.apnd owd (hy m[i] (List.getElem_mem hil)).d.any rfl inf22 rfl rfl (by simp; omega) (by simp; omega)) (Wd.u rfl) rfl rfl (fun v37 H37 r37 => ?_)
          obtain ⟨k37, owd, hk37, hs37⟩ := r37
          replace hk37 : Nx (HL1.size + 1) H31.size k37 := hk37
          replace hs37 := hs37.md
          have df29 := DF.app (df17) (bf_hl.mono hm0.size) hk37
          have df30 := DF.app (df18) (bf_hr.mono hm0.size) hk37
          have df31 := DF.app (df19) (bf_hx.mono hm0.size) hk37
          have df32 := DF.app (df20) (bf_hy.mono hm0.size) hk37
          have dj33 : Dj ko k37 := Dj.app (dj21) ow.le hk37
          have df34 := DF.app (df22) (bf_hxo.mono (by omega)) hk37
          have df35 := DF.app (df23) (bf_pt28.mono hm0.size) hk37
          have df36 := DF.app (df24) (bf_pt34.mono hm0.size) hk37
          have nx37 : Nx 0 H0.size k37 := Nx.tr (nx25) hk37 hm0.size
          have nx38 : Nx 0 H12.size k37 := Nx.tr (nx26) hk37 hlm1.size
          have nx39 : Nx (HL1.size + 1) H31.size k37 := Nx.tr (nx28) hk37 hq6.size
          replace hl := hl.upL hs37 (DFL.cons df17 DFL.nil)
          replace hr := hr.upL hs37 (DFL.cons df18 DFL.nil)
          replace hx := fun x hx0 => (hx x hx0).upL hs37 (DFL.cons df19 DFL.nil)
          replace hy := fun x hy0 => (hy x hy0).upL hs37 (DFL.cons df20 DFL.nil)
          replace ow := ow.upL hs37 (DL.cons dj21 DL.nil)
          replace hxo := fun x hxo_ => (hxo x hxo_).upL hs37 (DFL.cons df22 DFL.nil)
          replace pt28 := pt28.upL hs37 (DFL.cons df23 DFL.nil)
          replace pt34 := pt34.upL hs37 (DFL.cons df24 DFL.nil)
          replace hm0 := (Mo.trL (ks := []) (hm0.mdn []) hs37 (MIL.cons (MI.app MI.z (nx25) (Nat.le_refl _)) MIL.nil)).nil
          replace hlm1 := hlm1.trL hs37 (MIL.cons (MI.app MI.z (nx26) (Nat.le_refl _)) MIL.nil)
          replace hq6 := hq6.trL hs37 (MIL.cons (MI.app (MI.root (by simp)) (nx28) (Nat.le_refl _)) MIL.nil)
          have hz5 := hs37.size
          have hle_owd := owd.le
          obtain ⟨s37, rfl⟩ : ∃ s : SV, v37 = s.v := ⟨toSV v37, owd.sv.symm⟩
          rw [List.nil_append] at owd
          refine ⟨.inr hq6, LH.narrow (SH2 := fun Hq => Mo (Ms [k37]) H37 Hq) (fun Hq hq => hq6.trL hq (MIL.cons (MI.app (MI.root (by simp)) (nx39) (Nat.le_refl _)) MIL.nil)) ?_⟩
          have hq6 : Mo (Ms [k37]) H37 H37 := Mo.refl _ _
          have nx40 := Nx.refl k37 H37.size
          refine LH.take (v := .agg (fM ⟨m[i].k, m[i].d, s37⟩).toArray) 12 (by kernel_rfl) rfl (by kernel_rfl) (by kernel_rfl) (by kernel_rfl) (fun Hq hq => ?_) (Wd.u rfl) rfl rfl hq6 ?_
          · exact Y.build (v := .agg (fM ⟨m[i].k, m[i].d, s37⟩).toArray) rfl rfl (by intro w; exact build_mm hki s37 _)
          refine LH.one (i := 13) (by kernel_rfl) ?_
          refine LO.z rfl (Z.allocv rfl Try.zeroValue47) (Wd.u rfl) rfl rfl (fun v7 H7 r7 => ?_)
          obtain ⟨rfl, hd, hs7, ob7, hH7⟩ := r7
          have hzs7 : H7.size = H37.size + 1 := by rw [hH7]; simp
          have df41 := (DF.new (bf_hl.mono hm0.size) : DF _ (H37.size + 1))
          have df42 := (DF.new (bf_hr.mono hm0.size) : DF _ (H37.size + 1))
          have df43 := (DF.new (bf_hx.mono hm0.size) : DF _ (H37.size + 1))
          have df44 := (DF.new (bf_hy.mono hm0.size) : DF _ (H37.size + 1))
          have dj45 : Dj ko (H37.size + 1) := Dj.new ow.le
          have df46 := (DF.new (bf_hxo.mono (by omega)) : DF _ (H37.size + 1))
          have df47 := (DF.new (bf_pt28.mono hm0.size) : DF _ (H37.size + 1))
          have df48 := (DF.new (bf_pt34.mono hm0.size) : DF _ (H37.size + 1))
          have dj49 : Dj k37 (H37.size + 1) := Dj.new owd.le
          have nx50 : Nx 0 H0.size (H37.size + 1) := Nx.new hm0.size
          have nx51 : Nx 0 H12.size (H37.size + 1) := Nx.new hlm1.size
          have nx52 : Nx 0 H37.size (H37.size + 1) := Nx.new hq6.size
          replace hl := hl.nw hs7
          replace hr := hr.nw hs7
          replace hx := fun x hx0 => (hx x hx0).nw hs7
          replace hy := fun x hy0 => (hy x hy0).nw hs7
          replace ow := ow.nw hs7
          replace hxo := fun x hxo_ => (hxo x hxo_).nw hs7
          replace pt28 := pt28.nw hs7
          replace pt34 := pt34.nw hs7
          replace owd := owd.nw hs7
          replace hm0 := hm0.tr hs7
          replace hlm1 := hlm1.trN hs7
          replace hq6 := hq6.trN hs7
          have hz6 := hs7.size
          refine ⟨.inr hq6, LH.narrow (SH2 := fun Hq => Mo (Ms [k37]) H7 Hq) (fun Hq hq => hq6.trL hq (MIL.cons (MI.app (MI.root (by simp)) (nx40) (Nat.le_refl _)) MIL.nil)) ?_⟩
          have hq6 : Mo (Ms [k37]) H7 H7 := Mo.refl _ _
          have nx53 := Nx.refl k37 H7.size
          refine LH.one (i := 14) (by kernel_rfl) ?_
          refine LO.s rfl (S.var hd (_) (fM ⟨m[i].k, m[i].d, s37⟩) rfl rfl rfl rfl (fM_one ⟨m[i].k, m[i].d, s37⟩) Try.sizeOf47 (fM_len _) (by decide) ((splice_all2 (fM_len _).symm))) (Wd.u rfl) rfl (fun H6_14 r6_14 => ?_)
          obtain ⟨hd, hs6_14⟩ := r6_14
          replace hs6_14 := hs6_14.md1
          replace hl := hl.upL hs6_14 (DFL.cons df41 DFL.nil)
          replace hr := hr.upL hs6_14 (DFL.cons df42 DFL.nil)
          replace hx := fun x hx0 => (hx x hx0).upL hs6_14 (DFL.cons df43 DFL.nil)
          replace hy := fun x hy0 => (hy x hy0).upL hs6_14 (DFL.cons df44 DFL.nil)
          replace ow := ow.upL hs6_14 (DL.cons dj45 DL.nil)
          replace hxo := fun x hxo_ => (hxo x hxo_).upL hs6_14 (DFL.cons df46 DFL.nil)
          replace pt28 := pt28.upL hs6_14 (DFL.cons df47 DFL.nil)
          replace pt34 := pt34.upL hs6_14 (DFL.cons df48 DFL.nil)
          replace owd := owd.upL hs6_14 (DL.cons dj49 DL.nil)
          replace hm0 := (Mo.trL (ks := []) (hm0.mdn []) hs6_14 (MIL.cons (MI.app MI.z (nx50) (Nat.le_refl _)) MIL.nil)).nil
          replace hlm1 := hlm1.trL hs6_14 (MIL.cons (MI.app MI.z (nx51) (Nat.le_refl _)) MIL.nil)
          -- LOST hq6
          have hz7 := hs6_14.size
          refine ⟨.inl rfl, ?_⟩
          refine LH.done (by kernel_rfl) ?_
          refine hK13 _ _ ?_
          refine CW.seq (fun K14 hK14 hE14 => ?_)
          refine CW.region ?_
          refine LR.v (Y.assign rfl rfl) (Wd.u rfl) rfl rfl ?_
          refine LR.nil ?_
          refine hK14 _ _ ?_
          refine CW.cut (fun (j : (Nat)) => [(1, v2), (5, vo), (6, .int .i64 i), (7, .pointer (some ⟨H37.size, 0, none⟩)), (8, .int .i64 j)])
            (fun (j : (Nat)) (H : Heap) => (j ≤ lo.length) ∧ (∀ x ∈ (lo.map Mm.c).take j, Op.bytesLess x.1 m[i].k = true) ∧ (∀ h : j < lo.length, Op.bytesLess lo[j].k m[i].k = false) ∧ Nw H6_14 H) (fun K15 hK15 hE15 => ?_) ?_
          ·
            have hcm15 : Nw H6_14 H6_14 := Mo.refl _ _
            refine CW.block (fun K16 hK16 hX16 hE16 => ?_)
            refine CW.loop (fun (j : (Nat)) => [(1, v2), (5, vo), (6, .int .i64 i), (7, .pointer (some ⟨H37.size, 0, none⟩)), (8, .int .i64 j)])
              (fun (j : (Nat)) (H : Heap) => (j ≤ lo.length) ∧ (∀ x ∈ (lo.map Mm.c).take j, Op.bytesLess x.1 m[i].k = true) ∧ Nw H6_14 H)
              (fun (j : (Nat)) => lo.length - j) 0 ⟨rfl, rfl, rfl, rfl, rfl, trivial⟩ ?_ ?_
            ·
              exact ⟨(by omega), (fun x h => by simp at h), Mo.refl _ _⟩
            intro j HL2 hI2 K17 hN17 hE17
            obtain ⟨hj, hlt, hlm2⟩ := hI2
            replace hl := hl.nw hlm2
            replace hr := hr.nw hlm2
            replace hx := fun x hx0 => (hx x hx0).nw hlm2
            replace hy := fun x hy0 => (hy x hy0).nw hlm2
            replace ow := ow.nw hlm2
            replace hxo := fun x hxo_ => (hxo x hxo_).nw hlm2
            replace owd := owd.nw hlm2
            replace hd := hd.nw hlm2
            replace hm0 := hm0.tr hlm2
            replace hlm1 := hlm1.trN hlm2
            replace hcm15 := hcm15.tr hlm2
            have hz8 := hlm2.size
            refine CW.seq (fun K18 hK18 hE18 => ?_)
            refine CW.seq (fun K19 hK19 hE19 => ?_)
            refine CW.region_tail 12 rfl (by kernel_rfl) (fun T8 hT8 => ?_)
            refine LR.v (Y.move rfl rfl) (Wd.u rfl) rfl rfl ?_
            refine LR.v (Y.move rfl rfl) (Wd.u rfl) rfl rfl ?_
            refine LR.v (Y.len ow.rd rfl Try.runUnderlying40 rfl) (Wd.u rfl) rfl rfl ?_
            refine LR.v (Y.lss rfl rfl rfl) (Wd.u rfl) rfl rfl ?_
            refine LR.v (Y.move rfl rfl) (Wd.u rfl) rfl rfl ?_
            refine LR.splitp (d := 43) rfl (fun g43 => ?_) (fun g43 => ?_)
            ·
              refine LR.v (Y.move rfl rfl) (Wd.g rfl rfl rfl) rfl rfl ?_
              refine LR.v (Y.move rfl rfl) (Wd.g rfl rfl rfl) rfl rfl ?_
              have hjl : j < lo.length := by omega
              have hkj := (hxo lo[j] (List.getElem_mem hjl)).k
              refine LR.v (Y.owAddr ow (j) rfl Try.runUnderlying40 Try.sizeOf47 rfl rfl (by first | rfl | omega) (by first | omega | (simp; omega) | (simp; done))) (Wd.g rfl rfl rfl) rfl rfl ?_
              refine LR.v (Y.fieldAddr (ow.pt (j := j) (by first | omega | (simp; omega) | (simp; done))) rfl Try.runUnderlying47 rfl rfl Try.sizeOf25 (by decide) rfl) (Wd.g rfl rfl rfl) rfl rfl ?_
              refine LR.v (Y.cast (v2 := idV lo[j].k) (Y.loadN (((ow.pt (j := j) (by first | omega | (simp; omega) | (simp; done))).drop 0).take 32) rfl Try.isAgg25 Try.sizeOf25 (by simp [kc_len]) rfl) (congrArg (fun x : List Value => Value.agg x.toArray) (kc_at _ hkj))) (Wd.g rfl rfl rfl) rfl rfl ?_
              refine LR.v (Y.fieldAddr hd.pt rfl Try.runUnderlying47 rfl rfl Try.sizeOf25 (by decide) rfl) (Wd.g rfl rfl rfl) rfl rfl ?_
              refine LR.v (Y.cast (v2 := idV m[i].k) (Y.loadN (hd.pt.take 32) rfl Try.isAgg25 Try.sizeOf25 (by simp [kc_len]) rfl) (congrArg (fun x : List Value => Value.agg x.toArray) (kc_at _ hki))) (Wd.g rfl rfl rfl) rfl rfl ?_
              refine LR.nil (hT8 _ ?_)
              -- call selvage/selvageref1.Less
              refine LR.call rfl Try.call20 rfl (Wd.g rfl rfl rfl) rfl rfl (rless_ct lo[j].k m[i].k w0 _ hkj hki) (fun v51 H51 r51 => ?_)
              obtain ⟨rfl, hs51⟩ := r51
              replace hl := hl.nw hs51
              replace hr := hr.nw hs51
              replace hx := fun x hx0 => (hx x hx0).nw hs51
              replace hy := fun x hy0 => (hy x hy0).nw hs51
              replace ow := ow.nw hs51
              replace hxo := fun x hxo_ => (hxo x hxo_).nw hs51
              replace owd := owd.nw hs51
              replace hd := hd.nw hs51
              replace hm0 := hm0.tr hs51
              replace hlm1 := hlm1.trN hs51
              replace hcm15 := hcm15.tr hs51
              replace hlm2 := hlm2.tr hs51
              have hz9 := hs51.size
              refine LR.v (Y.pick_t rfl rfl rfl) (Wd.u rfl) rfl rfl ?_
              refine LR.nil ?_
              refine hK19 _ _ ?_
              refine CW.cond rfl (fun c52 => ?_) (fun c52 => ?_)
              ·
                refine CW.skip ?_
                refine hK18 _ _ ?_
                refine CW.block (fun K20 hK20 hX20 hE20 => ?_)
                refine CW.region ?_
                refine LR.v (Y.move rfl rfl) (Wd.u rfl) rfl rfl ?_
                refine LR.v (Y.addi rfl rfl rfl (by omega)) (Wd.u rfl) rfl rfl ?_
                refine LR.v (Y.assign rfl rfl) (Wd.u rfl) rfl rfl ?_
                refine LR.nil ?_
                refine hK20 _ _ ?_
                refine QN.sub (hN17 (j + 1) _ ?_ ?_) ⟨rfl, rfl, (iv (by omega)), rfl, (iv (by omega)), trivial⟩
                · exact ⟨(by omega), less_step hlt hjl (by simpa using c52), hlm2⟩
                · first | omega | (simp only; omega) | (simp; omega)
              ·
                refine CW.exit (hE18 (.exit 2) nofun _ _ (hE17 (.exit 2) nofun _ _ (hX16 _ _ ?_)))
                refine QN.sub (hK15 j _ ?_) ⟨rfl, rfl, (iv (by omega)), rfl, (iv (by omega)), trivial⟩
                exact ⟨(by omega), hlt, (fun _ => by simpa using c52), hcm15⟩
            ·
              refine LR.gs rfl rfl rfl rfl rfl rfl ?_
              refine LR.gs rfl rfl rfl rfl rfl rfl ?_
              refine LR.gs rfl rfl rfl rfl rfl rfl ?_
              refine LR.gs rfl rfl rfl rfl rfl rfl ?_
              refine LR.gs rfl rfl rfl rfl rfl rfl ?_
              refine LR.gs rfl rfl rfl rfl rfl rfl ?_
              refine LR.gs rfl rfl rfl rfl rfl rfl ?_
              refine LR.nil (hT8 _ ?_)
              refine LR.gs rfl rfl rfl rfl rfl rfl ?_
              refine LR.v (Y.pick_f rfl rfl rfl) (Wd.u rfl) rfl rfl ?_
              refine LR.nil ?_
              refine hK19 _ _ ?_
              refine CW.cond_f rfl ?_
              refine CW.exit (hE18 (.exit 2) nofun _ _ (hE17 (.exit 2) nofun _ _ (hX16 _ _ ?_)))
              refine QN.sub (hK15 j _ ?_) ⟨rfl, rfl, (iv (by omega)), rfl, (iv (by omega)), trivial⟩
              exact ⟨(by omega), hlt, (fun h => absurd h (by omega)), hcm15⟩
          ·
            intro j Hcut2 hIcut2
            obtain ⟨hj, hlt, hst, hlmcut2⟩ := hIcut2
            replace hl := hl.nw hlmcut2
            replace hr := hr.nw hlmcut2
            replace hx := fun x hx0 => (hx x hx0).nw hlmcut2
            replace hy := fun x hy0 => (hy x hy0).nw hlmcut2
            replace ow := ow.nw hlmcut2
            replace hxo := fun x hxo_ => (hxo x hxo_).nw hlmcut2
            replace owd := owd.nw hlmcut2
            replace hd := hd.nw hlmcut2
            replace hm0 := hm0.tr hlmcut2
            replace hlm1 := hlm1.trN hlmcut2
            have hz10 := hlmcut2.size
            refine CW.seq (fun K21 hK21 hE21 => ?_)
            refine CW.seq (fun K22 hK22 hE22 => ?_)
            refine CW.region_draw rfl (by kernel_rfl) ?_
            refine LR.v (Y.move rfl rfl) (Wd.u rfl) rfl rfl ?_
            refine LR.v (Y.move rfl rfl) (Wd.u rfl) rfl rfl ?_
            refine LR.v (Y.len ow.rd rfl Try.runUnderlying40 rfl) (Wd.u rfl) rfl rfl ?_
            refine LR.v (Y.lss rfl rfl rfl) (Wd.u rfl) rfl rfl ?_
            refine LR.v (Y.move rfl rfl) (Wd.u rfl) rfl rfl ?_
            refine LR.splitp (d := 59) rfl (fun g59 => ?_) (fun g59 => ?_)
            ·
              refine LR.v (Y.move rfl rfl) (Wd.g rfl rfl rfl) rfl rfl ?_
              refine LR.v (Y.move rfl rfl) (Wd.g rfl rfl rfl) rfl rfl ?_
              have hjl : j < lo.length := by omega
              have hkj := (hxo lo[j] (List.getElem_mem hjl)).k
              refine LR.v (Y.owAddr ow (j) rfl Try.runUnderlying40 Try.sizeOf47 rfl rfl (by first | rfl | omega) (by first | omega | (simp; omega) | (simp; done))) (Wd.g rfl rfl rfl) rfl rfl ?_
              refine LR.v (Y.fieldAddr (ow.pt (j := j) (by first | omega | (simp; omega) | (simp; done))) rfl Try.runUnderlying47 rfl rfl Try.sizeOf25 (by decide) rfl) (Wd.g rfl rfl rfl) rfl rfl ?_
              refine LR.v (Y.cast (v2 := idV lo[j].k) (Y.loadN (((ow.pt (j := j) (by first | omega | (simp; omega) | (simp; done))).drop 0).take 32) rfl Try.isAgg25 Try.sizeOf25 (by simp [kc_len]) rfl) (congrArg (fun x : List Value => Value.agg x.toArray) (kc_at _ hkj))) (Wd.g rfl rfl rfl) rfl rfl ?_
              refine LR.v (Y.fieldAddr hd.pt rfl Try.runUnderlying47 rfl rfl Try.sizeOf25 (by decide) rfl) (Wd.g rfl rfl rfl) rfl rfl ?_
              refine LR.v (Y.cast (v2 := idV m[i].k) (Y.loadN (hd.pt.take 32) rfl Try.isAgg25 Try.sizeOf25 (by simp [kc_len]) rfl) (congrArg (fun x : List Value => Value.agg x.toArray) (kc_at _ hki))) (Wd.g rfl rfl rfl) rfl rfl ?_
              refine LR.v (Y.aeql rfl Try.eqGuardType25 (fun w => run_equalIn_id 9998 Try.underlying25 Try.underlying5 Try.sizeOf5 Try.isAgg5 (hkj) (hki) w) rfl rfl) (Wd.g rfl rfl rfl) rfl rfl ?_
              refine LR.v (Y.pick_t rfl rfl rfl) (Wd.u rfl) rfl rfl ?_
              refine LR.nil ?_
              refine hK22 _ _ ?_
              refine CW.condp rfl (fun c68 => ?_) (fun c68 => ?_)
              ·
                have hpl := rplace_hit hlt hjl (by simpa using c68)
                have his : (placeL (lo.map Mm.c) m[i].k).2 = true := by rw [hpl]
                refine CW.seq (fun K23 hK23 hE23 => ?_)
                refine CW.region ?_
                refine LR.v (Y.move rfl rfl) (Wd.u rfl) rfl rfl ?_
                refine LR.v (Y.move rfl rfl) (Wd.u rfl) rfl rfl ?_
                refine LR.v (Y.loadN hd.pt rfl Try.isAgg47 Try.sizeOf47 (fM_len _) rfl) (Wd.u rfl) rfl rfl ?_
                refine LR.v (Y.owAddr ow (j) rfl Try.runUnderlying40 Try.sizeOf47 rfl rfl (by first | rfl | omega) (by first | omega | (simp; omega) | (simp; done))) (Wd.u rfl) rfl rfl ?_
                refine LR.s (S.owwN ow j 0 (⟨m[i].k, m[i].d, s37⟩ : Mm) (fM ⟨m[i].k, m[i].d, s37⟩) rfl rfl rfl rfl (fM_one _) Try.sizeOf47 (fM_len _) hjl (by decide) (splice_all2 (by rw [fM_len, fM_len])).symm) (Wd.u rfl) rfl (fun H11_4 r11_4 => ?_)
                obtain ⟨ow, hs11_4⟩ := r11_4
                replace hs11_4 := hs11_4.md
                replace hl := hl.upL hs11_4 (DFL.cons df11 DFL.nil)
                replace hr := hr.upL hs11_4 (DFL.cons df12 DFL.nil)
                replace hx := fun x hx0 => (hx x hx0).upL hs11_4 (DFL.cons df13 DFL.nil)
                replace hy := fun x hy0 => (hy x hy0).upL hs11_4 (DFL.cons df14 DFL.nil)
                replace hxo := fun x hxo_ => (hxo x hxo_).upL hs11_4 (DFL.cons fgw DFL.nil)
                replace owd := owd.upL hs11_4 (DL.cons dj33.symm DL.nil)
                replace hd := hd.upL hs11_4 (DL.cons dj45.symm DL.nil)
                replace hm0 := (Mo.trL (ks := []) (hm0.mdn []) hs11_4 (MIL.cons (MI.app MI.z (nx15) (Nat.le_refl _)) MIL.nil)).nil
                replace hlm1 := hlm1.trL hs11_4 (MIL.cons (MI.app (MI.root (by simp)) (nx16) (Nat.le_refl _)) MIL.nil)
                have hz11 := hs11_4.size
                refine LR.nil ?_
                refine hK23 _ _ ?_
                refine CW.exit (hE21 (.exit 1) nofun _ _ (hX10 _ _ ?_))
                refine hK9 _ _ ?_
                refine CW.region ?_
                refine LR.v (Y.move rfl rfl) (Wd.u rfl) rfl rfl ?_
                refine LR.v (Y.addi rfl rfl rfl (by omega)) (Wd.u rfl) rfl rfl ?_
                refine LR.v (Y.assign rfl rfl) (Wd.u rfl) rfl rfl ?_
                refine LR.nil ?_
                refine QN.sub (hN6 (i + 1, vo, ko, lo.set j ⟨m[i].k, m[i].d, s37⟩, fun b => G b ∨ b + 1 = k37) _ ?_ ?_) ⟨rfl, rfl, (iv (by omega)), trivial⟩
                · exact ⟨(by omega), ow, setM j hxo (fun b e => .inl e) ⟨hmi.k, owd.rd.imp (fun b _ e => .inr e)⟩, BF.or1 (bf_hxo.mono (by omega)) owd.le, DF.or1 (fgw) (dj33), by rw [adM_step hil, ← hlo]; exact (adM1_hit (x := ⟨m[i].k, m[i].d, s37⟩) hnz his (by rw [hpl])).symm, nx16, hlm1⟩
                · first | omega | (simp only; omega) | (simp; omega)
              ·
                refine CW.skip ?_
                refine hK21 _ _ ?_
                refine CW.seq (fun K24 hK24 hE24 => ?_)
                refine CW.region ?_
                have hpl : placeL (lo.map Mm.c) m[i].k = (j, false) := rplace_miss hlt hj (fun hjl => ⟨by first | (simpa using c68) | (exfalso; omega), hst hjl⟩)
                have his : (placeL (lo.map Mm.c) m[i].k).2 = false := by rw [hpl]
                refine LR.v (Y.assign rfl rfl) (Wd.u rfl) rfl rfl ?_
                refine LR.nil ?_
                refine hK24 _ _ ?_
                refine CW.seq (fun K25 hK25 hE25 => ?_)
                refine CW.region ?_
                refine LR.v (Y.move rfl rfl) (Wd.u rfl) rfl rfl ?_
                refine LR.v (Y.move rfl rfl) (Wd.u rfl) rfl rfl ?_
                refine LR.v (Y.move rfl rfl) (Wd.u rfl) rfl rfl ?_
                refine LR.e (g := fun v => v) (Y.slice ow.rd (0) (j) rfl Try.runUnderlying40 Try.sizeOf47 rfl (.inl ⟨rfl, rfl⟩) (.inr ⟨_, _, _, rfl, rfl, by first | rfl | omega⟩) (by omega) (by omega)) (Wd.u rfl) rfl rfl (fun v76 rd76 => ?_)
                have bf_rd76 := BF.of ow.le
                have nl77 : Ow 0 47 Hcut2 fM 33 (.slice none 0 0) [] := Ow.nil fM_len fM_one
                refine LR.z (Z.apnd nl77 rd76 rfl inf40 rfl rfl (by simp; omega) (by simp; omega)) (Wd.u rfl) rfl rfl (fun v77 H77 r77 => ?_)
                obtain ⟨k77, on, hk77, hs77⟩ := r77
                replace hk77 : Nx 0 Hcut2.size k77 := hk77
                replace hs77 := hs77.md
                have df54 := DF.app (DF.z) (bf_hl.mono hm0.size) hk77
                have df55 := DF.app (DF.z) (bf_hr.mono hm0.size) hk77
                have df56 := DF.app (DF.z) (bf_hx.mono hm0.size) hk77
                have df57 := DF.app (DF.z) (bf_hy.mono hm0.size) hk77
                have dj58 : Dj ko k77 := Dj.app (Dj.z) ow.le hk77
                have df59 := DF.app (DF.z) (bf_hxo.mono (by omega)) hk77
                have dj60 : Dj k37 k77 := Dj.app (Dj.z) owd.le hk77
                have dj61 : Dj (H37.size + 1) k77 := Dj.app (Dj.z) hd.lt hk77
                have df62 := DF.app (DF.z) (bf_rd76.mono (by omega)) hk77
                have nx63 : Nx 0 H0.size k77 := Nx.tr (Nx.refl 0 _) hk77 hm0.size
                have nx64 : Nx 0 H12.size k77 := Nx.tr (Nx.refl 0 _) hk77 hlm1.size
                replace hl := hl.upL hs77 (DFL.cons DF.z DFL.nil)
                replace hr := hr.upL hs77 (DFL.cons DF.z DFL.nil)
                replace hx := fun x hx0 => (hx x hx0).upL hs77 (DFL.cons DF.z DFL.nil)
                replace hy := fun x hy0 => (hy x hy0).upL hs77 (DFL.cons DF.z DFL.nil)
                replace ow := ow.upL hs77 (DL.cons Dj.z DL.nil)
                replace hxo := fun x hxo_ => (hxo x hxo_).upL hs77 (DFL.cons DF.z DFL.nil)
                replace owd := owd.upL hs77 (DL.cons Dj.z DL.nil)
                replace hd := hd.upL hs77 (DL.cons Dj.z DL.nil)
                replace rd76 := rd76.upL hs77 (DFL.cons DF.z DFL.nil)
                replace hm0 := (Mo.trL (ks := []) (hm0.mdn []) hs77 (MIL.cons MI.z MIL.nil)).nil
                replace hlm1 := hlm1.trL hs77 (MIL.cons MI.z MIL.nil)
                have hz12 := hs77.size
                have hle_on := on.le
                have hpl : placeL (lo.map Mm.c) m[i].k = (j, false) := rplace_miss hlt hj (fun hjl => ⟨by first | (simpa using c68) | (exfalso; omega), hst hjl⟩)
                have his : (placeL (lo.map Mm.c) m[i].k).2 = false := by rw [hpl]
                refine LR.v (Y.assign rfl rfl) (Wd.u rfl) rfl rfl ?_
                refine LR.nil ?_
                refine hK25 _ _ ?_
                refine CW.seq (fun K26 hK26 hE26 => ?_)
                refine CW.region ?_
                refine LR.v (Y.move rfl rfl) (Wd.u rfl) rfl rfl ?_
                refine LR.v (Y.loadN hd.pt rfl Try.isAgg47 Try.sizeOf47 (fM_len _) rfl) (Wd.u rfl) rfl rfl ?_
                refine LR.z (Z.litw _ ([(⟨m[i].k, m[i].d, s37⟩ : Mm)]) rfl inf40 rfl rfl rfl (by decide) (by decide) fM_len fM_one (rfl)) (Wd.u rfl) rfl rfl (fun v80 H80 r80 => ?_)
                obtain ⟨nw80, hs80, ob80, hH80⟩ := r80
                have hzs80 : H80.size = H77.size + 1 := by rw [hH80]; simp
                have df65 := (DF.new (bf_hl.mono hm0.size) : DF _ (H77.size + 1))
                have df66 := (DF.new (bf_hr.mono hm0.size) : DF _ (H77.size + 1))
                have df67 := (DF.new (bf_hx.mono hm0.size) : DF _ (H77.size + 1))
                have df68 := (DF.new (bf_hy.mono hm0.size) : DF _ (H77.size + 1))
                have dj69 : Dj ko (H77.size + 1) := Dj.new ow.le
                have df70 := (DF.new (bf_hxo.mono (by omega)) : DF _ (H77.size + 1))
                have dj71 : Dj k37 (H77.size + 1) := Dj.new owd.le
                have dj72 : Dj (H37.size + 1) (H77.size + 1) := Dj.new hd.lt
                have dj73 : Dj k77 (H77.size + 1) := Dj.new on.le
                have nx74 : Nx 0 H0.size (H77.size + 1) := Nx.new hm0.size
                have nx75 : Nx 0 H12.size (H77.size + 1) := Nx.new hlm1.size
                replace hl := hl.nw hs80
                replace hr := hr.nw hs80
                replace hx := fun x hx0 => (hx x hx0).nw hs80
                replace hy := fun x hy0 => (hy x hy0).nw hs80
                replace ow := ow.nw hs80
                replace hxo := fun x hxo_ => (hxo x hxo_).nw hs80
                replace owd := owd.nw hs80
                replace hd := hd.nw hs80
                replace on := on.nw hs80
                replace hm0 := hm0.tr hs80
                replace hlm1 := hlm1.trN hs80
                have hz13 := hs80.size
                refine LR.z (Z.apnd on nw80.rd rfl inf40 rfl rfl (by simp; omega) (by simp; omega)) (Wd.u rfl) rfl rfl (fun v81 H81 r81 => ?_)
                obtain ⟨k81, on, hk81, hs81⟩ := r81
                replace hk81 : Nx k77 H80.size k81 := hk81
                replace hs81 := hs81.md
                have df76 := DF.app (df54) (bf_hl.mono hm0.size) hk81
                have df77 := DF.app (df55) (bf_hr.mono hm0.size) hk81
                have df78 := DF.app (df56) (bf_hx.mono hm0.size) hk81
                have df79 := DF.app (df57) (bf_hy.mono hm0.size) hk81
                have dj80 : Dj ko k81 := Dj.app (dj58) ow.le hk81
                have df81 := DF.app (df59) (bf_hxo.mono (by omega)) hk81
                have dj82 : Dj k37 k81 := Dj.app (dj60) owd.le hk81
                have dj83 : Dj (H37.size + 1) k81 := Dj.app (dj61) hd.lt hk81
                have dj84 : Dj (H77.size + 1) k81 := Dj.app (dj73.symm) nw80.le hk81
                have nx85 : Nx 0 H0.size k81 := Nx.tr (nx63) hk81 hm0.size
                have nx86 : Nx 0 H12.size k81 := Nx.tr (nx64) hk81 hlm1.size
                replace hl := hl.upL hs81 (DFL.cons df54 DFL.nil)
                replace hr := hr.upL hs81 (DFL.cons df55 DFL.nil)
                replace hx := fun x hx0 => (hx x hx0).upL hs81 (DFL.cons df56 DFL.nil)
                replace hy := fun x hy0 => (hy x hy0).upL hs81 (DFL.cons df57 DFL.nil)
                replace ow := ow.upL hs81 (DL.cons dj58 DL.nil)
                replace hxo := fun x hxo_ => (hxo x hxo_).upL hs81 (DFL.cons df59 DFL.nil)
                replace owd := owd.upL hs81 (DL.cons dj60 DL.nil)
                replace hd := hd.upL hs81 (DL.cons dj61 DL.nil)
                replace nw80 := nw80.upL hs81 (DL.cons dj73.symm DL.nil)
                replace hm0 := (Mo.trL (ks := []) (hm0.mdn []) hs81 (MIL.cons (MI.app MI.z (nx63) (Nat.le_refl _)) MIL.nil)).nil
                replace hlm1 := hlm1.trL hs81 (MIL.cons (MI.app MI.z (nx64) (Nat.le_refl _)) MIL.nil)
                have hz14 := hs81.size
                have hle_on := on.le
                have hpl : placeL (lo.map Mm.c) m[i].k = (j, false) := rplace_miss hlt hj (fun hjl => ⟨by first | (simpa using c68) | (exfalso; omega), hst hjl⟩)
                have his : (placeL (lo.map Mm.c) m[i].k).2 = false := by rw [hpl]
                refine LR.v (Y.assign rfl rfl) (Wd.u rfl) rfl rfl ?_
                refine LR.nil ?_
                refine hK26 _ _ ?_
                refine CW.region ?_
                refine LR.v (Y.move rfl rfl) (Wd.u rfl) rfl rfl ?_
                refine LR.v (Y.move rfl rfl) (Wd.u rfl) rfl rfl ?_
                refine LR.v (Y.move rfl rfl) (Wd.u rfl) rfl rfl ?_
                refine LR.e (g := fun v => v) (Y.slice ow.rd (j) (lo.length) rfl Try.runUnderlying40 Try.sizeOf47 rfl (.inr ⟨_, _, _, rfl, rfl, by first | rfl | omega⟩) (.inl ⟨rfl, rfl⟩) (by omega) (by omega)) (Wd.u rfl) rfl rfl (fun v85 rd85 => ?_)
                have bf_rd85 := BF.of ow.le
                refine LR.z (Z.apnd on rd85 rfl inf40 rfl rfl (by simp; omega) (by simp; omega)) (Wd.u rfl) rfl rfl (fun v86 H86 r86 => ?_)
                obtain ⟨k86, on, hk86, hs86⟩ := r86
                replace hk86 : Nx k81 H81.size k86 := hk86
                replace hs86 := hs86.md
                have df87 := DF.app (df76) (bf_hl.mono hm0.size) hk86
                have df88 := DF.app (df77) (bf_hr.mono hm0.size) hk86
                have df89 := DF.app (df78) (bf_hx.mono hm0.size) hk86
                have df90 := DF.app (df79) (bf_hy.mono hm0.size) hk86
                have dj91 : Dj ko k86 := Dj.app (dj80) ow.le hk86
                have df92 := DF.app (df81) (bf_hxo.mono (by omega)) hk86
                have dj93 : Dj k37 k86 := Dj.app (dj82) owd.le hk86
                have df94 := DF.app ((DF.of dj80)) (bf_rd85.mono (by omega)) hk86
                have nx95 : Nx 0 H0.size k86 := Nx.tr (nx85) hk86 hm0.size
                have nx96 : Nx 0 H12.size k86 := Nx.tr (nx86) hk86 hlm1.size
                replace hl := hl.upL hs86 (DFL.cons df76 DFL.nil)
                replace hr := hr.upL hs86 (DFL.cons df77 DFL.nil)
                replace hx := fun x hx0 => (hx x hx0).upL hs86 (DFL.cons df78 DFL.nil)
                replace hy := fun x hy0 => (hy x hy0).upL hs86 (DFL.cons df79 DFL.nil)
                replace ow := ow.upL hs86 (DL.cons dj80 DL.nil)
                replace hxo := fun x hxo_ => (hxo x hxo_).upL hs86 (DFL.cons df81 DFL.nil)
                replace owd := owd.upL hs86 (DL.cons dj82 DL.nil)
                replace rd85 := rd85.upL hs86 (DFL.cons (DF.of dj80) DFL.nil)
                replace hm0 := (Mo.trL (ks := []) (hm0.mdn []) hs86 (MIL.cons (MI.app MI.z (nx85) (Nat.le_refl _)) MIL.nil)).nil
                replace hlm1 := hlm1.trL hs86 (MIL.cons (MI.app MI.z (nx86) (Nat.le_refl _)) MIL.nil)
                have hz15 := hs86.size
                have hle_on := on.le
                rw [List.nil_append, List.drop_zero, List.take_length] at on
                refine LR.v (Y.assign rfl rfl) (Wd.u rfl) rfl rfl ?_
                refine LR.nil ?_
                refine hK10 _ _ ?_
                refine hK9 _ _ ?_
                refine CW.region ?_
                refine LR.v (Y.move rfl rfl) (Wd.u rfl) rfl rfl ?_
                refine LR.v (Y.addi rfl rfl rfl (by omega)) (Wd.u rfl) rfl rfl ?_
                refine LR.v (Y.assign rfl rfl) (Wd.u rfl) rfl rfl ?_
                refine LR.nil ?_
                refine QN.sub (hN6 (i + 1, v86, k86, lo.take j ++ [⟨m[i].k, m[i].d, s37⟩] ++ lo.drop j, fun b => G b ∨ b + 1 = k37) _ ?_ ?_) ⟨rfl, rfl, (iv (by omega)), trivial⟩
                · exact ⟨(by omega), on, insM2 j hxo (fun b e => .inl e) ⟨hmi.k, owd.rd.imp (fun b _ e => .inr e)⟩, BF.or1 (bf_hxo.mono (by omega)) owd.le, DF.or1 (df92) (dj93.symm), by rw [adM_step hil, ← hlo, adM1_miss (x := ⟨m[i].k, m[i].d, s37⟩) hnz his (by rw [hpl])]; simp, (Nx.z (nx96)), hlm1⟩
                · first | omega | (simp only; omega) | (simp; omega)
            ·
              refine LR.gs rfl rfl rfl rfl rfl rfl ?_
              refine LR.gs rfl rfl rfl rfl rfl rfl ?_
              refine LR.gs rfl rfl rfl rfl rfl rfl ?_
              refine LR.gs rfl rfl rfl rfl rfl rfl ?_
              refine LR.gs rfl rfl rfl rfl rfl rfl ?_
              refine LR.gs rfl rfl rfl rfl rfl rfl ?_
              refine LR.gs rfl rfl rfl rfl rfl rfl ?_
              refine LR.gs rfl rfl rfl rfl rfl rfl ?_
              refine LR.v (Y.pick_f rfl rfl rfl) (Wd.u rfl) rfl rfl ?_
              refine LR.nil ?_
              refine hK22 _ _ ?_
              refine CW.cond_f rfl ?_
              refine CW.skip ?_
              refine hK21 _ _ ?_
              refine CW.seq (fun K27 hK27 hE27 => ?_)
              refine CW.region ?_
              have hpl : placeL (lo.map Mm.c) m[i].k = (j, false) := rplace_miss hlt hj (fun hjl => ⟨by first | (simpa using c68) | (exfalso; omega), hst hjl⟩)
              have his : (placeL (lo.map Mm.c) m[i].k).2 = false := by rw [hpl]
              refine LR.v (Y.assign rfl rfl) (Wd.u rfl) rfl rfl ?_
              refine LR.nil ?_
              refine hK27 _ _ ?_
              refine CW.seq (fun K28 hK28 hE28 => ?_)
              refine CW.region ?_
              refine LR.v (Y.move rfl rfl) (Wd.u rfl) rfl rfl ?_
              refine LR.v (Y.move rfl rfl) (Wd.u rfl) rfl rfl ?_
              refine LR.v (Y.move rfl rfl) (Wd.u rfl) rfl rfl ?_
              refine LR.e (g := fun v => v) (Y.slice ow.rd (0) (j) rfl Try.runUnderlying40 Try.sizeOf47 rfl (.inl ⟨rfl, rfl⟩) (.inr ⟨_, _, _, rfl, rfl, by first | rfl | omega⟩) (by omega) (by omega)) (Wd.u rfl) rfl rfl (fun v76 rd76 => ?_)
              have bf_rd76 := BF.of ow.le
              have nl77 : Ow 0 47 Hcut2 fM 33 (.slice none 0 0) [] := Ow.nil fM_len fM_one
              refine LR.z (Z.apnd nl77 rd76 rfl inf40 rfl rfl (by simp; omega) (by simp; omega)) (Wd.u rfl) rfl rfl (fun v77 H77 r77 => ?_)
              obtain ⟨k77, on, hk77, hs77⟩ := r77
              replace hk77 : Nx 0 Hcut2.size k77 := hk77
              replace hs77 := hs77.md
              have df97 := DF.app (DF.z) (bf_hl.mono hm0.size) hk77
              have df98 := DF.app (DF.z) (bf_hr.mono hm0.size) hk77
              have df99 := DF.app (DF.z) (bf_hx.mono hm0.size) hk77
              have df100 := DF.app (DF.z) (bf_hy.mono hm0.size) hk77
              have dj101 : Dj ko k77 := Dj.app (Dj.z) ow.le hk77
              have df102 := DF.app (DF.z) (bf_hxo.mono (by omega)) hk77
              have dj103 : Dj k37 k77 := Dj.app (Dj.z) owd.le hk77
              have dj104 : Dj (H37.size + 1) k77 := Dj.app (Dj.z) hd.lt hk77
              have df105 := DF.app (DF.z) (bf_rd76.mono (by omega)) hk77
              have nx106 : Nx 0 H0.size k77 := Nx.tr (Nx.refl 0 _) hk77 hm0.size
              have nx107 : Nx 0 H12.size k77 := Nx.tr (Nx.refl 0 _) hk77 hlm1.size
              replace hl := hl.upL hs77 (DFL.cons DF.z DFL.nil)
              replace hr := hr.upL hs77 (DFL.cons DF.z DFL.nil)
              replace hx := fun x hx0 => (hx x hx0).upL hs77 (DFL.cons DF.z DFL.nil)
              replace hy := fun x hy0 => (hy x hy0).upL hs77 (DFL.cons DF.z DFL.nil)
              replace ow := ow.upL hs77 (DL.cons Dj.z DL.nil)
              replace hxo := fun x hxo_ => (hxo x hxo_).upL hs77 (DFL.cons DF.z DFL.nil)
              replace owd := owd.upL hs77 (DL.cons Dj.z DL.nil)
              replace hd := hd.upL hs77 (DL.cons Dj.z DL.nil)
              replace rd76 := rd76.upL hs77 (DFL.cons DF.z DFL.nil)
              replace hm0 := (Mo.trL (ks := []) (hm0.mdn []) hs77 (MIL.cons MI.z MIL.nil)).nil
              replace hlm1 := hlm1.trL hs77 (MIL.cons MI.z MIL.nil)
              have hz16 := hs77.size
              have hle_on := on.le
              have hpl : placeL (lo.map Mm.c) m[i].k = (j, false) := rplace_miss hlt hj (fun hjl => ⟨by first | (simpa using c68) | (exfalso; omega), hst hjl⟩)
              have his : (placeL (lo.map Mm.c) m[i].k).2 = false := by rw [hpl]
              refine LR.v (Y.assign rfl rfl) (Wd.u rfl) rfl rfl ?_
              refine LR.nil ?_
              refine hK28 _ _ ?_
              refine CW.seq (fun K29 hK29 hE29 => ?_)
              refine CW.region ?_
              refine LR.v (Y.move rfl rfl) (Wd.u rfl) rfl rfl ?_
              refine LR.v (Y.loadN hd.pt rfl Try.isAgg47 Try.sizeOf47 (fM_len _) rfl) (Wd.u rfl) rfl rfl ?_
              refine LR.z (Z.litw _ ([(⟨m[i].k, m[i].d, s37⟩ : Mm)]) rfl inf40 rfl rfl rfl (by decide) (by decide) fM_len fM_one (rfl)) (Wd.u rfl) rfl rfl (fun v80 H80 r80 => ?_)
              obtain ⟨nw80, hs80, ob80, hH80⟩ := r80
              have hzs80 : H80.size = H77.size + 1 := by rw [hH80]; simp
              have df108 := (DF.new (bf_hl.mono hm0.size) : DF _ (H77.size + 1))
              have df109 := (DF.new (bf_hr.mono hm0.size) : DF _ (H77.size + 1))
              have df110 := (DF.new (bf_hx.mono hm0.size) : DF _ (H77.size + 1))
              have df111 := (DF.new (bf_hy.mono hm0.size) : DF _ (H77.size + 1))
              have dj112 : Dj ko (H77.size + 1) := Dj.new ow.le
              have df113 := (DF.new (bf_hxo.mono (by omega)) : DF _ (H77.size + 1))
              have dj114 : Dj k37 (H77.size + 1) := Dj.new owd.le
              have dj115 : Dj (H37.size + 1) (H77.size + 1) := Dj.new hd.lt
              have dj116 : Dj k77 (H77.size + 1) := Dj.new on.le
              have nx117 : Nx 0 H0.size (H77.size + 1) := Nx.new hm0.size
              have nx118 : Nx 0 H12.size (H77.size + 1) := Nx.new hlm1.size
              replace hl := hl.nw hs80
              replace hr := hr.nw hs80
              replace hx := fun x hx0 => (hx x hx0).nw hs80
              replace hy := fun x hy0 => (hy x hy0).nw hs80
              replace ow := ow.nw hs80
              replace hxo := fun x hxo_ => (hxo x hxo_).nw hs80
              replace owd := owd.nw hs80
              replace hd := hd.nw hs80
              replace on := on.nw hs80
              replace hm0 := hm0.tr hs80
              replace hlm1 := hlm1.trN hs80
              have hz17 := hs80.size
              refine LR.z (Z.apnd on nw80.rd rfl inf40 rfl rfl (by simp; omega) (by simp; omega)) (Wd.u rfl) rfl rfl (fun v81 H81 r81 => ?_)
              obtain ⟨k81, on, hk81, hs81⟩ := r81
              replace hk81 : Nx k77 H80.size k81 := hk81
              replace hs81 := hs81.md
              have df119 := DF.app (df97) (bf_hl.mono hm0.size) hk81
              have df120 := DF.app (df98) (bf_hr.mono hm0.size) hk81
              have df121 := DF.app (df99) (bf_hx.mono hm0.size) hk81
              have df122 := DF.app (df100) (bf_hy.mono hm0.size) hk81
              have dj123 : Dj ko k81 := Dj.app (dj101) ow.le hk81
              have df124 := DF.app (df102) (bf_hxo.mono (by omega)) hk81
              have dj125 : Dj k37 k81 := Dj.app (dj103) owd.le hk81
              have dj126 : Dj (H37.size + 1) k81 := Dj.app (dj104) hd.lt hk81
              have dj127 : Dj (H77.size + 1) k81 := Dj.app (dj116.symm) nw80.le hk81
              have nx128 : Nx 0 H0.size k81 := Nx.tr (nx106) hk81 hm0.size
              have nx129 : Nx 0 H12.size k81 := Nx.tr (nx107) hk81 hlm1.size
              replace hl := hl.upL hs81 (DFL.cons df97 DFL.nil)
              replace hr := hr.upL hs81 (DFL.cons df98 DFL.nil)
              replace hx := fun x hx0 => (hx x hx0).upL hs81 (DFL.cons df99 DFL.nil)
              replace hy := fun x hy0 => (hy x hy0).upL hs81 (DFL.cons df100 DFL.nil)
              replace ow := ow.upL hs81 (DL.cons dj101 DL.nil)
              replace hxo := fun x hxo_ => (hxo x hxo_).upL hs81 (DFL.cons df102 DFL.nil)
              replace owd := owd.upL hs81 (DL.cons dj103 DL.nil)
              replace hd := hd.upL hs81 (DL.cons dj104 DL.nil)
              replace nw80 := nw80.upL hs81 (DL.cons dj116.symm DL.nil)
              replace hm0 := (Mo.trL (ks := []) (hm0.mdn []) hs81 (MIL.cons (MI.app MI.z (nx106) (Nat.le_refl _)) MIL.nil)).nil
              replace hlm1 := hlm1.trL hs81 (MIL.cons (MI.app MI.z (nx107) (Nat.le_refl _)) MIL.nil)
              have hz18 := hs81.size
              have hle_on := on.le
              have hpl : placeL (lo.map Mm.c) m[i].k = (j, false) := rplace_miss hlt hj (fun hjl => ⟨by first | (simpa using c68) | (exfalso; omega), hst hjl⟩)
              have his : (placeL (lo.map Mm.c) m[i].k).2 = false := by rw [hpl]
              refine LR.v (Y.assign rfl rfl) (Wd.u rfl) rfl rfl ?_
              refine LR.nil ?_
              refine hK29 _ _ ?_
              refine CW.region ?_
              refine LR.v (Y.move rfl rfl) (Wd.u rfl) rfl rfl ?_
              refine LR.v (Y.move rfl rfl) (Wd.u rfl) rfl rfl ?_
              refine LR.v (Y.move rfl rfl) (Wd.u rfl) rfl rfl ?_
              refine LR.e (g := fun v => v) (Y.slice ow.rd (j) (lo.length) rfl Try.runUnderlying40 Try.sizeOf47 rfl (.inr ⟨_, _, _, rfl, rfl, by first | rfl | omega⟩) (.inl ⟨rfl, rfl⟩) (by omega) (by omega)) (Wd.u rfl) rfl rfl (fun v85 rd85 => ?_)
              have bf_rd85 := BF.of ow.le
              refine LR.z (Z.apnd on rd85 rfl inf40 rfl rfl (by simp; omega) (by simp; omega)) (Wd.u rfl) rfl rfl (fun v86 H86 r86 => ?_)
              obtain ⟨k86, on, hk86, hs86⟩ := r86
              replace hk86 : Nx k81 H81.size k86 := hk86
              replace hs86 := hs86.md
              have df130 := DF.app (df119) (bf_hl.mono hm0.size) hk86
              have df131 := DF.app (df120) (bf_hr.mono hm0.size) hk86
              have df132 := DF.app (df121) (bf_hx.mono hm0.size) hk86
              have df133 := DF.app (df122) (bf_hy.mono hm0.size) hk86
              have dj134 : Dj ko k86 := Dj.app (dj123) ow.le hk86
              have df135 := DF.app (df124) (bf_hxo.mono (by omega)) hk86
              have dj136 : Dj k37 k86 := Dj.app (dj125) owd.le hk86
              have df137 := DF.app ((DF.of dj123)) (bf_rd85.mono (by omega)) hk86
              have nx138 : Nx 0 H0.size k86 := Nx.tr (nx128) hk86 hm0.size
              have nx139 : Nx 0 H12.size k86 := Nx.tr (nx129) hk86 hlm1.size
              replace hl := hl.upL hs86 (DFL.cons df119 DFL.nil)
              replace hr := hr.upL hs86 (DFL.cons df120 DFL.nil)
              replace hx := fun x hx0 => (hx x hx0).upL hs86 (DFL.cons df121 DFL.nil)
              replace hy := fun x hy0 => (hy x hy0).upL hs86 (DFL.cons df122 DFL.nil)
              replace ow := ow.upL hs86 (DL.cons dj123 DL.nil)
              replace hxo := fun x hxo_ => (hxo x hxo_).upL hs86 (DFL.cons df124 DFL.nil)
              replace owd := owd.upL hs86 (DL.cons dj125 DL.nil)
              replace rd85 := rd85.upL hs86 (DFL.cons (DF.of dj123) DFL.nil)
              replace hm0 := (Mo.trL (ks := []) (hm0.mdn []) hs86 (MIL.cons (MI.app MI.z (nx128) (Nat.le_refl _)) MIL.nil)).nil
              replace hlm1 := hlm1.trL hs86 (MIL.cons (MI.app MI.z (nx129) (Nat.le_refl _)) MIL.nil)
              have hz19 := hs86.size
              have hle_on := on.le
              rw [List.nil_append, List.drop_zero, List.take_length] at on
              refine LR.v (Y.assign rfl rfl) (Wd.u rfl) rfl rfl ?_
              refine LR.nil ?_
              refine hK10 _ _ ?_
              refine hK9 _ _ ?_
              refine CW.region ?_
              refine LR.v (Y.move rfl rfl) (Wd.u rfl) rfl rfl ?_
              refine LR.v (Y.addi rfl rfl rfl (by omega)) (Wd.u rfl) rfl rfl ?_
              refine LR.v (Y.assign rfl rfl) (Wd.u rfl) rfl rfl ?_
              refine LR.nil ?_
              refine QN.sub (hN6 (i + 1, v86, k86, lo.take j ++ [⟨m[i].k, m[i].d, s37⟩] ++ lo.drop j, fun b => G b ∨ b + 1 = k37) _ ?_ ?_) ⟨rfl, rfl, (iv (by omega)), trivial⟩
              · exact ⟨(by omega), on, insM2 j hxo (fun b e => .inl e) ⟨hmi.k, owd.rd.imp (fun b _ e => .inr e)⟩, BF.or1 (bf_hxo.mono (by omega)) owd.le, DF.or1 (df135) (dj136.symm), by rw [adM_step hil, ← hlo, adM1_miss (x := ⟨m[i].k, m[i].d, s37⟩) hnz his (by rw [hpl])]; simp, (Nx.z (nx139)), hlm1⟩
              · first | omega | (simp only; omega) | (simp; omega)
        ·
          refine LO.z rfl (Z.allocv rfl Try.zeroValue47) (Wd.u rfl) rfl rfl (fun v7 H7 r7 => ?_)
          obtain ⟨rfl, hd, hs7, ob7, hH7⟩ := r7
          have hzs7 : H7.size = H31.size + 1 := by rw [hH7]; simp
          have df140 := (DF.new (bf_hl.mono hm0.size) : DF _ (H31.size + 1))
          have df141 := (DF.new (bf_hr.mono hm0.size) : DF _ (H31.size + 1))
          have df142 := (DF.new (bf_hx.mono hm0.size) : DF _ (H31.size + 1))
          have df143 := (DF.new (bf_hy.mono hm0.size) : DF _ (H31.size + 1))
          have dj144 : Dj ko (H31.size + 1) := Dj.new ow.le
          have df145 := (DF.new (bf_hxo.mono (by omega)) : DF _ (H31.size + 1))
          have df146 := (DF.new (bf_pt28.mono hm0.size) : DF _ (H31.size + 1))
          have df147 := (DF.new (bf_pt34.mono hm0.size) : DF _ (H31.size + 1))
          have dj148 : Dj (HL1.size + 1) (H31.size + 1) := Dj.new owd.le
          have nx149 : Nx 0 H0.size (H31.size + 1) := Nx.new hm0.size
          have nx150 : Nx 0 H12.size (H31.size + 1) := Nx.new hlm1.size
          have nx151 : Nx 0 H31.size (H31.size + 1) := Nx.new hq6.size
          replace hl := hl.nw hs7
          replace hr := hr.nw hs7
          replace hx := fun x hx0 => (hx x hx0).nw hs7
          replace hy := fun x hy0 => (hy x hy0).nw hs7
          replace ow := ow.nw hs7
          replace hxo := fun x hxo_ => (hxo x hxo_).nw hs7
          replace pt28 := pt28.nw hs7
          replace pt34 := pt34.nw hs7
          replace owd := owd.nw hs7
          replace hm0 := hm0.tr hs7
          replace hlm1 := hlm1.trN hs7
          replace hq6 := hq6.trN hs7
          have hz20 := hs7.size
          refine ⟨.inr hq6, LH.narrow (SH2 := fun Hq => Mo (Ms [(HL1.size + 1)]) H7 Hq) (fun Hq hq => hq6.trL hq (MIL.cons (MI.app (MI.root (by simp)) (nx28) (Nat.le_refl _)) MIL.nil)) ?_⟩
          have hq6 : Mo (Ms [(HL1.size + 1)]) H7 H7 := Mo.refl _ _
          have nx152 := Nx.refl (HL1.size + 1) H7.size
          refine LH.one (i := 11) (by kernel_rfl) ?_
          refine LO.z rfl (Z.apnd owd (hy m[i] (List.getElem_mem hil)).d.any rfl inf22 rfl rfl (by simp; omega) (by simp; omega)) (Wd.u rfl) rfl rfl (fun v37 H37 r37 => ?_)
          obtain ⟨k37, owd, hk37, hs37⟩ := r37
          replace hk37 : Nx (HL1.size + 1) H7.size k37 := hk37
          replace hs37 := hs37.md
          have df153 := DF.app (df17) (bf_hl.mono hm0.size) hk37
          have df154 := DF.app (df18) (bf_hr.mono hm0.size) hk37
          have df155 := DF.app (df19) (bf_hx.mono hm0.size) hk37
          have df156 := DF.app (df20) (bf_hy.mono hm0.size) hk37
          have dj157 : Dj ko k37 := Dj.app (dj21) ow.le hk37
          have df158 := DF.app (df22) (bf_hxo.mono (by omega)) hk37
          have df159 := DF.app (df23) (bf_pt28.mono hm0.size) hk37
          have df160 := DF.app (df24) (bf_pt34.mono hm0.size) hk37
          have dj161 : Dj (H31.size + 1) k37 := Dj.app (dj148.symm) hd.lt hk37
          have nx162 : Nx 0 H0.size k37 := Nx.tr (nx25) hk37 hm0.size
          have nx163 : Nx 0 H12.size k37 := Nx.tr (nx26) hk37 hlm1.size
          have nx164 : Nx (HL1.size + 1) H7.size k37 := Nx.tr (nx152) hk37 hq6.size
          replace hl := hl.upL hs37 (DFL.cons df17 DFL.nil)
          replace hr := hr.upL hs37 (DFL.cons df18 DFL.nil)
          replace hx := fun x hx0 => (hx x hx0).upL hs37 (DFL.cons df19 DFL.nil)
          replace hy := fun x hy0 => (hy x hy0).upL hs37 (DFL.cons df20 DFL.nil)
          replace ow := ow.upL hs37 (DL.cons dj21 DL.nil)
          replace hxo := fun x hxo_ => (hxo x hxo_).upL hs37 (DFL.cons df22 DFL.nil)
          replace pt28 := pt28.upL hs37 (DFL.cons df23 DFL.nil)
          replace pt34 := pt34.upL hs37 (DFL.cons df24 DFL.nil)
          replace hd := hd.upL hs37 (DL.cons dj148.symm DL.nil)
          replace hm0 := (Mo.trL (ks := []) (hm0.mdn []) hs37 (MIL.cons (MI.app MI.z (nx25) (Nat.le_refl _)) MIL.nil)).nil
          replace hlm1 := hlm1.trL hs37 (MIL.cons (MI.app MI.z (nx26) (Nat.le_refl _)) MIL.nil)
          replace hq6 := hq6.trL hs37 (MIL.cons (MI.app (MI.root (by simp)) (nx152) (Nat.le_refl _)) MIL.nil)
          have hz21 := hs37.size
          have hle_owd := owd.le
          obtain ⟨s37, rfl⟩ : ∃ s : SV, v37 = s.v := ⟨toSV v37, owd.sv.symm⟩
          rw [List.nil_append] at owd
          refine ⟨.inr hq6, LH.narrow (SH2 := fun Hq => Mo (Ms [k37]) H37 Hq) (fun Hq hq => hq6.trL hq (MIL.cons (MI.app (MI.root (by simp)) (nx164) (Nat.le_refl _)) MIL.nil)) ?_⟩
          have hq6 : Mo (Ms [k37]) H37 H37 := Mo.refl _ _
          have nx165 := Nx.refl k37 H37.size
          refine LH.take (v := .agg (fM ⟨m[i].k, m[i].d, s37⟩).toArray) 12 (by kernel_rfl) rfl (by kernel_rfl) (by kernel_rfl) (by kernel_rfl) (fun Hq hq => ?_) (Wd.u rfl) rfl rfl hq6 ?_
          · exact Y.build (v := .agg (fM ⟨m[i].k, m[i].d, s37⟩).toArray) rfl rfl (by intro w; exact build_mm hki s37 _)
          refine LH.one (i := 14) (by kernel_rfl) ?_
          refine LO.s rfl (S.var hd (_) (fM ⟨m[i].k, m[i].d, s37⟩) rfl rfl rfl rfl (fM_one ⟨m[i].k, m[i].d, s37⟩) Try.sizeOf47 (fM_len _) (by decide) ((splice_all2 (fM_len _).symm))) (Wd.u rfl) rfl (fun H6_14 r6_14 => ?_)
          obtain ⟨hd, hs6_14⟩ := r6_14
          replace hs6_14 := hs6_14.md1
          replace hl := hl.upL hs6_14 (DFL.cons df140 DFL.nil)
          replace hr := hr.upL hs6_14 (DFL.cons df141 DFL.nil)
          replace hx := fun x hx0 => (hx x hx0).upL hs6_14 (DFL.cons df142 DFL.nil)
          replace hy := fun x hy0 => (hy x hy0).upL hs6_14 (DFL.cons df143 DFL.nil)
          replace ow := ow.upL hs6_14 (DL.cons dj144 DL.nil)
          replace hxo := fun x hxo_ => (hxo x hxo_).upL hs6_14 (DFL.cons df145 DFL.nil)
          replace pt28 := pt28.upL hs6_14 (DFL.cons df146 DFL.nil)
          replace pt34 := pt34.upL hs6_14 (DFL.cons df147 DFL.nil)
          replace owd := owd.upL hs6_14 (DL.cons dj161.symm DL.nil)
          replace hm0 := (Mo.trL (ks := []) (hm0.mdn []) hs6_14 (MIL.cons (MI.app MI.z (nx149) (Nat.le_refl _)) MIL.nil)).nil
          replace hlm1 := hlm1.trL hs6_14 (MIL.cons (MI.app MI.z (nx150) (Nat.le_refl _)) MIL.nil)
          -- LOST hq6
          have hz22 := hs6_14.size
          refine ⟨.inl rfl, ?_⟩
          refine LH.done (by kernel_rfl) ?_
          refine hK13 _ _ ?_
          refine CW.seq (fun K30 hK30 hE30 => ?_)
          refine CW.region ?_
          refine LR.v (Y.assign rfl rfl) (Wd.u rfl) rfl rfl ?_
          refine LR.nil ?_
          refine hK30 _ _ ?_
          refine CW.cut (fun (j : (Nat)) => [(1, v2), (5, vo), (6, .int .i64 i), (7, .pointer (some ⟨H31.size, 0, none⟩)), (8, .int .i64 j)])
            (fun (j : (Nat)) (H : Heap) => (j ≤ lo.length) ∧ (∀ x ∈ (lo.map Mm.c).take j, Op.bytesLess x.1 m[i].k = true) ∧ (∀ h : j < lo.length, Op.bytesLess lo[j].k m[i].k = false) ∧ Nw H6_14 H) (fun K31 hK31 hE31 => ?_) ?_
          ·
            have hcm31 : Nw H6_14 H6_14 := Mo.refl _ _
            refine CW.block (fun K32 hK32 hX32 hE32 => ?_)
            refine CW.loop (fun (j : (Nat)) => [(1, v2), (5, vo), (6, .int .i64 i), (7, .pointer (some ⟨H31.size, 0, none⟩)), (8, .int .i64 j)])
              (fun (j : (Nat)) (H : Heap) => (j ≤ lo.length) ∧ (∀ x ∈ (lo.map Mm.c).take j, Op.bytesLess x.1 m[i].k = true) ∧ Nw H6_14 H)
              (fun (j : (Nat)) => lo.length - j) 0 ⟨rfl, rfl, rfl, rfl, rfl, trivial⟩ ?_ ?_
            ·
              exact ⟨(by omega), (fun x h => by simp at h), Mo.refl _ _⟩
            intro j HL2 hI2 K33 hN33 hE33
            obtain ⟨hj, hlt, hlm2⟩ := hI2
            replace hl := hl.nw hlm2
            replace hr := hr.nw hlm2
            replace hx := fun x hx0 => (hx x hx0).nw hlm2
            replace hy := fun x hy0 => (hy x hy0).nw hlm2
            replace ow := ow.nw hlm2
            replace hxo := fun x hxo_ => (hxo x hxo_).nw hlm2
            replace owd := owd.nw hlm2
            replace hd := hd.nw hlm2
            replace hm0 := hm0.tr hlm2
            replace hlm1 := hlm1.trN hlm2
            replace hcm31 := hcm31.tr hlm2
            have hz23 := hlm2.size
            refine CW.seq (fun K34 hK34 hE34 => ?_)
            refine CW.seq (fun K35 hK35 hE35 => ?_)
            refine CW.region_tail 12 rfl (by kernel_rfl) (fun T8 hT8 => ?_)
            refine LR.v (Y.move rfl rfl) (Wd.u rfl) rfl rfl ?_
            refine LR.v (Y.move rfl rfl) (Wd.u rfl) rfl rfl ?_
            refine LR.v (Y.len ow.rd rfl Try.runUnderlying40 rfl) (Wd.u rfl) rfl rfl ?_
            refine LR.v (Y.lss rfl rfl rfl) (Wd.u rfl) rfl rfl ?_
            refine LR.v (Y.move rfl rfl) (Wd.u rfl) rfl rfl ?_
            refine LR.splitp (d := 43) rfl (fun g43 => ?_) (fun g43 => ?_)
            ·
              refine LR.v (Y.move rfl rfl) (Wd.g rfl rfl rfl) rfl rfl ?_
              refine LR.v (Y.move rfl rfl) (Wd.g rfl rfl rfl) rfl rfl ?_
              have hjl : j < lo.length := by omega
              have hkj := (hxo lo[j] (List.getElem_mem hjl)).k
              refine LR.v (Y.owAddr ow (j) rfl Try.runUnderlying40 Try.sizeOf47 rfl rfl (by first | rfl | omega) (by first | omega | (simp; omega) | (simp; done))) (Wd.g rfl rfl rfl) rfl rfl ?_
              refine LR.v (Y.fieldAddr (ow.pt (j := j) (by first | omega | (simp; omega) | (simp; done))) rfl Try.runUnderlying47 rfl rfl Try.sizeOf25 (by decide) rfl) (Wd.g rfl rfl rfl) rfl rfl ?_
              refine LR.v (Y.cast (v2 := idV lo[j].k) (Y.loadN (((ow.pt (j := j) (by first | omega | (simp; omega) | (simp; done))).drop 0).take 32) rfl Try.isAgg25 Try.sizeOf25 (by simp [kc_len]) rfl) (congrArg (fun x : List Value => Value.agg x.toArray) (kc_at _ hkj))) (Wd.g rfl rfl rfl) rfl rfl ?_
              refine LR.v (Y.fieldAddr hd.pt rfl Try.runUnderlying47 rfl rfl Try.sizeOf25 (by decide) rfl) (Wd.g rfl rfl rfl) rfl rfl ?_
              refine LR.v (Y.cast (v2 := idV m[i].k) (Y.loadN (hd.pt.take 32) rfl Try.isAgg25 Try.sizeOf25 (by simp [kc_len]) rfl) (congrArg (fun x : List Value => Value.agg x.toArray) (kc_at _ hki))) (Wd.g rfl rfl rfl) rfl rfl ?_
              refine LR.nil (hT8 _ ?_)
              -- call selvage/selvageref1.Less
              refine LR.call rfl Try.call20 rfl (Wd.g rfl rfl rfl) rfl rfl (rless_ct lo[j].k m[i].k w0 _ hkj hki) (fun v51 H51 r51 => ?_)
              obtain ⟨rfl, hs51⟩ := r51
              replace hl := hl.nw hs51
              replace hr := hr.nw hs51
              replace hx := fun x hx0 => (hx x hx0).nw hs51
              replace hy := fun x hy0 => (hy x hy0).nw hs51
              replace ow := ow.nw hs51
              replace hxo := fun x hxo_ => (hxo x hxo_).nw hs51
              replace owd := owd.nw hs51
              replace hd := hd.nw hs51
              replace hm0 := hm0.tr hs51
              replace hlm1 := hlm1.trN hs51
              replace hcm31 := hcm31.tr hs51
              replace hlm2 := hlm2.tr hs51
              have hz24 := hs51.size
              refine LR.v (Y.pick_t rfl rfl rfl) (Wd.u rfl) rfl rfl ?_
              refine LR.nil ?_
              refine hK35 _ _ ?_
              refine CW.cond rfl (fun c52 => ?_) (fun c52 => ?_)
              ·
                refine CW.skip ?_
                refine hK34 _ _ ?_
                refine CW.block (fun K36 hK36 hX36 hE36 => ?_)
                refine CW.region ?_
                refine LR.v (Y.move rfl rfl) (Wd.u rfl) rfl rfl ?_
                refine LR.v (Y.addi rfl rfl rfl (by omega)) (Wd.u rfl) rfl rfl ?_
                refine LR.v (Y.assign rfl rfl) (Wd.u rfl) rfl rfl ?_
                refine LR.nil ?_
                refine hK36 _ _ ?_
                refine QN.sub (hN33 (j + 1) _ ?_ ?_) ⟨rfl, rfl, (iv (by omega)), rfl, (iv (by omega)), trivial⟩
                · exact ⟨(by omega), less_step hlt hjl (by simpa using c52), hlm2⟩
                · first | omega | (simp only; omega) | (simp; omega)
              ·
                refine CW.exit (hE34 (.exit 2) nofun _ _ (hE33 (.exit 2) nofun _ _ (hX32 _ _ ?_)))
                refine QN.sub (hK31 j _ ?_) ⟨rfl, rfl, (iv (by omega)), rfl, (iv (by omega)), trivial⟩
                exact ⟨(by omega), hlt, (fun _ => by simpa using c52), hcm31⟩
            ·
              refine LR.gs rfl rfl rfl rfl rfl rfl ?_
              refine LR.gs rfl rfl rfl rfl rfl rfl ?_
              refine LR.gs rfl rfl rfl rfl rfl rfl ?_
              refine LR.gs rfl rfl rfl rfl rfl rfl ?_
              refine LR.gs rfl rfl rfl rfl rfl rfl ?_
              refine LR.gs rfl rfl rfl rfl rfl rfl ?_
              refine LR.gs rfl rfl rfl rfl rfl rfl ?_
              refine LR.nil (hT8 _ ?_)
              refine LR.gs rfl rfl rfl rfl rfl rfl ?_
              refine LR.v (Y.pick_f rfl rfl rfl) (Wd.u rfl) rfl rfl ?_
              refine LR.nil ?_
              refine hK35 _ _ ?_
              refine CW.cond_f rfl ?_
              refine CW.exit (hE34 (.exit 2) nofun _ _ (hE33 (.exit 2) nofun _ _ (hX32 _ _ ?_)))
              refine QN.sub (hK31 j _ ?_) ⟨rfl, rfl, (iv (by omega)), rfl, (iv (by omega)), trivial⟩
              exact ⟨(by omega), hlt, (fun h => absurd h (by omega)), hcm31⟩
          ·
            intro j Hcut2 hIcut2
            obtain ⟨hj, hlt, hst, hlmcut2⟩ := hIcut2
            replace hl := hl.nw hlmcut2
            replace hr := hr.nw hlmcut2
            replace hx := fun x hx0 => (hx x hx0).nw hlmcut2
            replace hy := fun x hy0 => (hy x hy0).nw hlmcut2
            replace ow := ow.nw hlmcut2
            replace hxo := fun x hxo_ => (hxo x hxo_).nw hlmcut2
            replace owd := owd.nw hlmcut2
            replace hd := hd.nw hlmcut2
            replace hm0 := hm0.tr hlmcut2
            replace hlm1 := hlm1.trN hlmcut2
            have hz25 := hlmcut2.size
            refine CW.seq (fun K37 hK37 hE37 => ?_)
            refine CW.seq (fun K38 hK38 hE38 => ?_)
            refine CW.region_draw rfl (by kernel_rfl) ?_
            refine LR.v (Y.move rfl rfl) (Wd.u rfl) rfl rfl ?_
            refine LR.v (Y.move rfl rfl) (Wd.u rfl) rfl rfl ?_
            refine LR.v (Y.len ow.rd rfl Try.runUnderlying40 rfl) (Wd.u rfl) rfl rfl ?_
            refine LR.v (Y.lss rfl rfl rfl) (Wd.u rfl) rfl rfl ?_
            refine LR.v (Y.move rfl rfl) (Wd.u rfl) rfl rfl ?_
            refine LR.splitp (d := 59) rfl (fun g59 => ?_) (fun g59 => ?_)
            ·
              refine LR.v (Y.move rfl rfl) (Wd.g rfl rfl rfl) rfl rfl ?_
              refine LR.v (Y.move rfl rfl) (Wd.g rfl rfl rfl) rfl rfl ?_
              have hjl : j < lo.length := by omega
              have hkj := (hxo lo[j] (List.getElem_mem hjl)).k
              refine LR.v (Y.owAddr ow (j) rfl Try.runUnderlying40 Try.sizeOf47 rfl rfl (by first | rfl | omega) (by first | omega | (simp; omega) | (simp; done))) (Wd.g rfl rfl rfl) rfl rfl ?_
              refine LR.v (Y.fieldAddr (ow.pt (j := j) (by first | omega | (simp; omega) | (simp; done))) rfl Try.runUnderlying47 rfl rfl Try.sizeOf25 (by decide) rfl) (Wd.g rfl rfl rfl) rfl rfl ?_
              refine LR.v (Y.cast (v2 := idV lo[j].k) (Y.loadN (((ow.pt (j := j) (by first | omega | (simp; omega) | (simp; done))).drop 0).take 32) rfl Try.isAgg25 Try.sizeOf25 (by simp [kc_len]) rfl) (congrArg (fun x : List Value => Value.agg x.toArray) (kc_at _ hkj))) (Wd.g rfl rfl rfl) rfl rfl ?_
              refine LR.v (Y.fieldAddr hd.pt rfl Try.runUnderlying47 rfl rfl Try.sizeOf25 (by decide) rfl) (Wd.g rfl rfl rfl) rfl rfl ?_
              refine LR.v (Y.cast (v2 := idV m[i].k) (Y.loadN (hd.pt.take 32) rfl Try.isAgg25 Try.sizeOf25 (by simp [kc_len]) rfl) (congrArg (fun x : List Value => Value.agg x.toArray) (kc_at _ hki))) (Wd.g rfl rfl rfl) rfl rfl ?_
              refine LR.v (Y.aeql rfl Try.eqGuardType25 (fun w => run_equalIn_id 9998 Try.underlying25 Try.underlying5 Try.sizeOf5 Try.isAgg5 (hkj) (hki) w) rfl rfl) (Wd.g rfl rfl rfl) rfl rfl ?_
              refine LR.v (Y.pick_t rfl rfl rfl) (Wd.u rfl) rfl rfl ?_
              refine LR.nil ?_
              refine hK38 _ _ ?_
              refine CW.condp rfl (fun c68 => ?_) (fun c68 => ?_)
              ·
                have hpl := rplace_hit hlt hjl (by simpa using c68)
                have his : (placeL (lo.map Mm.c) m[i].k).2 = true := by rw [hpl]
                refine CW.seq (fun K39 hK39 hE39 => ?_)
                refine CW.region ?_
                refine LR.v (Y.move rfl rfl) (Wd.u rfl) rfl rfl ?_
                refine LR.v (Y.move rfl rfl) (Wd.u rfl) rfl rfl ?_
                refine LR.v (Y.loadN hd.pt rfl Try.isAgg47 Try.sizeOf47 (fM_len _) rfl) (Wd.u rfl) rfl rfl ?_
                refine LR.v (Y.owAddr ow (j) rfl Try.runUnderlying40 Try.sizeOf47 rfl rfl (by first | rfl | omega) (by first | omega | (simp; omega) | (simp; done))) (Wd.u rfl) rfl rfl ?_
                refine LR.s (S.owwN ow j 0 (⟨m[i].k, m[i].d, s37⟩ : Mm) (fM ⟨m[i].k, m[i].d, s37⟩) rfl rfl rfl rfl (fM_one _) Try.sizeOf47 (fM_len _) hjl (by decide) (splice_all2 (by rw [fM_len, fM_len])).symm) (Wd.u rfl) rfl (fun H11_4 r11_4 => ?_)
                obtain ⟨ow, hs11_4⟩ := r11_4
                replace hs11_4 := hs11_4.md
                replace hl := hl.upL hs11_4 (DFL.cons df11 DFL.nil)
                replace hr := hr.upL hs11_4 (DFL.cons df12 DFL.nil)
                replace hx := fun x hx0 => (hx x hx0).upL hs11_4 (DFL.cons df13 DFL.nil)
                replace hy := fun x hy0 => (hy x hy0).upL hs11_4 (DFL.cons df14 DFL.nil)
                replace hxo := fun x hxo_ => (hxo x hxo_).upL hs11_4 (DFL.cons fgw DFL.nil)
                replace owd := owd.upL hs11_4 (DL.cons dj157.symm DL.nil)
                replace hd := hd.upL hs11_4 (DL.cons dj144.symm DL.nil)
                replace hm0 := (Mo.trL (ks := []) (hm0.mdn []) hs11_4 (MIL.cons (MI.app MI.z (nx15) (Nat.le_refl _)) MIL.nil)).nil
                replace hlm1 := hlm1.trL hs11_4 (MIL.cons (MI.app (MI.root (by simp)) (nx16) (Nat.le_refl _)) MIL.nil)
                have hz26 := hs11_4.size
                refine LR.nil ?_
                refine hK39 _ _ ?_
                refine CW.exit (hE37 (.exit 1) nofun _ _ (hX10 _ _ ?_))
                refine hK9 _ _ ?_
                refine CW.region ?_
                refine LR.v (Y.move rfl rfl) (Wd.u rfl) rfl rfl ?_
                refine LR.v (Y.addi rfl rfl rfl (by omega)) (Wd.u rfl) rfl rfl ?_
                refine LR.v (Y.assign rfl rfl) (Wd.u rfl) rfl rfl ?_
                refine LR.nil ?_
                refine QN.sub (hN6 (i + 1, vo, ko, lo.set j ⟨m[i].k, m[i].d, s37⟩, fun b => G b ∨ b + 1 = k37) _ ?_ ?_) ⟨rfl, rfl, (iv (by omega)), trivial⟩
                · exact ⟨(by omega), ow, setM j hxo (fun b e => .inl e) ⟨hmi.k, owd.rd.imp (fun b _ e => .inr e)⟩, BF.or1 (bf_hxo.mono (by omega)) owd.le, DF.or1 (fgw) (dj157), by rw [adM_step hil, ← hlo]; exact (adM1_hit (x := ⟨m[i].k, m[i].d, s37⟩) hnz his (by rw [hpl])).symm, nx16, hlm1⟩
                · first | omega | (simp only; omega) | (simp; omega)
              ·
                refine CW.skip ?_
                refine hK37 _ _ ?_
                refine CW.seq (fun K40 hK40 hE40 => ?_)
                refine CW.region ?_
                have hpl : placeL (lo.map Mm.c) m[i].k = (j, false) := rplace_miss hlt hj (fun hjl => ⟨by first | (simpa using c68) | (exfalso; omega), hst hjl⟩)
                have his : (placeL (lo.map Mm.c) m[i].k).2 = false := by rw [hpl]
                refine LR.v (Y.assign rfl rfl) (Wd.u rfl) rfl rfl ?_
                refine LR.nil ?_
                refine hK40 _ _ ?_
                refine CW.seq (fun K41 hK41 hE41 => ?_)
                refine CW.region ?_
                refine LR.v (Y.move rfl rfl) (Wd.u rfl) rfl rfl ?_
                refine LR.v (Y.move rfl rfl) (Wd.u rfl) rfl rfl ?_
                refine LR.v (Y.move rfl rfl) (Wd.u rfl) rfl rfl ?_
                refine LR.e (g := fun v => v) (Y.slice ow.rd (0) (j) rfl Try.runUnderlying40 Try.sizeOf47 rfl (.inl ⟨rfl, rfl⟩) (.inr ⟨_, _, _, rfl, rfl, by first | rfl | omega⟩) (by omega) (by omega)) (Wd.u rfl) rfl rfl (fun v76 rd76 => ?_)
                have bf_rd76 := BF.of ow.le
                have nl77 : Ow 0 47 Hcut2 fM 33 (.slice none 0 0) [] := Ow.nil fM_len fM_one
                refine LR.z (Z.apnd nl77 rd76 rfl inf40 rfl rfl (by simp; omega) (by simp; omega)) (Wd.u rfl) rfl rfl (fun v77 H77 r77 => ?_)
                obtain ⟨k77, on, hk77, hs77⟩ := r77
                replace hk77 : Nx 0 Hcut2.size k77 := hk77
                replace hs77 := hs77.md
                have df166 := DF.app (DF.z) (bf_hl.mono hm0.size) hk77
                have df167 := DF.app (DF.z) (bf_hr.mono hm0.size) hk77
                have df168 := DF.app (DF.z) (bf_hx.mono hm0.size) hk77
                have df169 := DF.app (DF.z) (bf_hy.mono hm0.size) hk77
                have dj170 : Dj ko k77 := Dj.app (Dj.z) ow.le hk77
                have df171 := DF.app (DF.z) (bf_hxo.mono (by omega)) hk77
                have dj172 : Dj k37 k77 := Dj.app (Dj.z) owd.le hk77
                have dj173 : Dj (H31.size + 1) k77 := Dj.app (Dj.z) hd.lt hk77
                have df174 := DF.app (DF.z) (bf_rd76.mono (by omega)) hk77
                have nx175 : Nx 0 H0.size k77 := Nx.tr (Nx.refl 0 _) hk77 hm0.size
                have nx176 : Nx 0 H12.size k77 := Nx.tr (Nx.refl 0 _) hk77 hlm1.size
                replace hl := hl.upL hs77 (DFL.cons DF.z DFL.nil)
                replace hr := hr.upL hs77 (DFL.cons DF.z DFL.nil)
                replace hx := fun x hx0 => (hx x hx0).upL hs77 (DFL.cons DF.z DFL.nil)
                replace hy := fun x hy0 => (hy x hy0).upL hs77 (DFL.cons DF.z DFL.nil)
                replace ow := ow.upL hs77 (DL.cons Dj.z DL.nil)
                replace hxo := fun x hxo_ => (hxo x hxo_).upL hs77 (DFL.cons DF.z DFL.nil)
                replace owd := owd.upL hs77 (DL.cons Dj.z DL.nil)
                replace hd := hd.upL hs77 (DL.cons Dj.z DL.nil)
                replace rd76 := rd76.upL hs77 (DFL.cons DF.z DFL.nil)
                replace hm0 := (Mo.trL (ks := []) (hm0.mdn []) hs77 (MIL.cons MI.z MIL.nil)).nil
                replace hlm1 := hlm1.trL hs77 (MIL.cons MI.z MIL.nil)
                have hz27 := hs77.size
                have hle_on := on.le
                have hpl : placeL (lo.map Mm.c) m[i].k = (j, false) := rplace_miss hlt hj (fun hjl => ⟨by first | (simpa using c68) | (exfalso; omega), hst hjl⟩)
                have his : (placeL (lo.map Mm.c) m[i].k).2 = false := by rw [hpl]
                refine LR.v (Y.assign rfl rfl) (Wd.u rfl) rfl rfl ?_
                refine LR.nil ?_
                refine hK41 _ _ ?_
                refine CW.seq (fun K42 hK42 hE42 => ?_)
                refine CW.region ?_
                refine LR.v (Y.move rfl rfl) (Wd.u rfl) rfl rfl ?_
                refine LR.v (Y.loadN hd.pt rfl Try.isAgg47 Try.sizeOf47 (fM_len _) rfl) (Wd.u rfl) rfl rfl ?_
                refine LR.z (Z.litw _ ([(⟨m[i].k, m[i].d, s37⟩ : Mm)]) rfl inf40 rfl rfl rfl (by decide) (by decide) fM_len fM_one (rfl)) (Wd.u rfl) rfl rfl (fun v80 H80 r80 => ?_)
                obtain ⟨nw80, hs80, ob80, hH80⟩ := r80
                have hzs80 : H80.size = H77.size + 1 := by rw [hH80]; simp
                have df177 := (DF.new (bf_hl.mono hm0.size) : DF _ (H77.size + 1))
                have df178 := (DF.new (bf_hr.mono hm0.size) : DF _ (H77.size + 1))
                have df179 := (DF.new (bf_hx.mono hm0.size) : DF _ (H77.size + 1))
                have df180 := (DF.new (bf_hy.mono hm0.size) : DF _ (H77.size + 1))
                have dj181 : Dj ko (H77.size + 1) := Dj.new ow.le
                have df182 := (DF.new (bf_hxo.mono (by omega)) : DF _ (H77.size + 1))
                have dj183 : Dj k37 (H77.size + 1) := Dj.new owd.le
                have dj184 : Dj (H31.size + 1) (H77.size + 1) := Dj.new hd.lt
                have dj185 : Dj k77 (H77.size + 1) := Dj.new on.le
                have nx186 : Nx 0 H0.size (H77.size + 1) := Nx.new hm0.size
                have nx187 : Nx 0 H12.size (H77.size + 1) := Nx.new hlm1.size
                replace hl := hl.nw hs80
                replace hr := hr.nw hs80
                replace hx := fun x hx0 => (hx x hx0).nw hs80
                replace hy := fun x hy0 => (hy x hy0).nw hs80
                replace ow := ow.nw hs80
                replace hxo := fun x hxo_ => (hxo x hxo_).nw hs80
                replace owd := owd.nw hs80
                replace hd := hd.nw hs80
                replace on := on.nw hs80
                replace hm0 := hm0.tr hs80
                replace hlm1 := hlm1.trN hs80
                have hz28 := hs80.size
                refine LR.z (Z.apnd on nw80.rd rfl inf40 rfl rfl (by simp; omega) (by simp; omega)) (Wd.u rfl) rfl rfl (fun v81 H81 r81 => ?_)
                obtain ⟨k81, on, hk81, hs81⟩ := r81
                replace hk81 : Nx k77 H80.size k81 := hk81
                replace hs81 := hs81.md
                have df188 := DF.app (df166) (bf_hl.mono hm0.size) hk81
                have df189 := DF.app (df167) (bf_hr.mono hm0.size) hk81
                have df190 := DF.app (df168) (bf_hx.mono hm0.size) hk81
                have df191 := DF.app (df169) (bf_hy.mono hm0.size) hk81
                have dj192 : Dj ko k81 := Dj.app (dj170) ow.le hk81
                have df193 := DF.app (df171) (bf_hxo.mono (by omega)) hk81
                have dj194 : Dj k37 k81 := Dj.app (dj172) owd.le hk81
                have dj195 : Dj (H31.size + 1) k81 := Dj.app (dj173) hd.lt hk81
                have dj196 : Dj (H77.size + 1) k81 := Dj.app (dj185.symm) nw80.le hk81
                have nx197 : Nx 0 H0.size k81 := Nx.tr (nx175) hk81 hm0.size
                have nx198 : Nx 0 H12.size k81 := Nx.tr (nx176) hk81 hlm1.size
                replace hl := hl.upL hs81 (DFL.cons df166 DFL.nil)
                replace hr := hr.upL hs81 (DFL.cons df167 DFL.nil)
                replace hx := fun x hx0 => (hx x hx0).upL hs81 (DFL.cons df168 DFL.nil)
                replace hy := fun x hy0 => (hy x hy0).upL hs81 (DFL.cons df169 DFL.nil)
                replace ow := ow.upL hs81 (DL.cons dj170 DL.nil)
                replace hxo := fun x hxo_ => (hxo x hxo_).upL hs81 (DFL.cons df171 DFL.nil)
                replace owd := owd.upL hs81 (DL.cons dj172 DL.nil)
                replace hd := hd.upL hs81 (DL.cons dj173 DL.nil)
                replace nw80 := nw80.upL hs81 (DL.cons dj185.symm DL.nil)
                replace hm0 := (Mo.trL (ks := []) (hm0.mdn []) hs81 (MIL.cons (MI.app MI.z (nx175) (Nat.le_refl _)) MIL.nil)).nil
                replace hlm1 := hlm1.trL hs81 (MIL.cons (MI.app MI.z (nx176) (Nat.le_refl _)) MIL.nil)
                have hz29 := hs81.size
                have hle_on := on.le
                have hpl : placeL (lo.map Mm.c) m[i].k = (j, false) := rplace_miss hlt hj (fun hjl => ⟨by first | (simpa using c68) | (exfalso; omega), hst hjl⟩)
                have his : (placeL (lo.map Mm.c) m[i].k).2 = false := by rw [hpl]
                refine LR.v (Y.assign rfl rfl) (Wd.u rfl) rfl rfl ?_
                refine LR.nil ?_
                refine hK42 _ _ ?_
                refine CW.region ?_
                refine LR.v (Y.move rfl rfl) (Wd.u rfl) rfl rfl ?_
                refine LR.v (Y.move rfl rfl) (Wd.u rfl) rfl rfl ?_
                refine LR.v (Y.move rfl rfl) (Wd.u rfl) rfl rfl ?_
                refine LR.e (g := fun v => v) (Y.slice ow.rd (j) (lo.length) rfl Try.runUnderlying40 Try.sizeOf47 rfl (.inr ⟨_, _, _, rfl, rfl, by first | rfl | omega⟩) (.inl ⟨rfl, rfl⟩) (by omega) (by omega)) (Wd.u rfl) rfl rfl (fun v85 rd85 => ?_)
                have bf_rd85 := BF.of ow.le
                refine LR.z (Z.apnd on rd85 rfl inf40 rfl rfl (by simp; omega) (by simp; omega)) (Wd.u rfl) rfl rfl (fun v86 H86 r86 => ?_)
                obtain ⟨k86, on, hk86, hs86⟩ := r86
                replace hk86 : Nx k81 H81.size k86 := hk86
                replace hs86 := hs86.md
                have df199 := DF.app (df188) (bf_hl.mono hm0.size) hk86
                have df200 := DF.app (df189) (bf_hr.mono hm0.size) hk86
                have df201 := DF.app (df190) (bf_hx.mono hm0.size) hk86
                have df202 := DF.app (df191) (bf_hy.mono hm0.size) hk86
                have dj203 : Dj ko k86 := Dj.app (dj192) ow.le hk86
                have df204 := DF.app (df193) (bf_hxo.mono (by omega)) hk86
                have dj205 : Dj k37 k86 := Dj.app (dj194) owd.le hk86
                have df206 := DF.app ((DF.of dj192)) (bf_rd85.mono (by omega)) hk86
                have nx207 : Nx 0 H0.size k86 := Nx.tr (nx197) hk86 hm0.size
                have nx208 : Nx 0 H12.size k86 := Nx.tr (nx198) hk86 hlm1.size
                replace hl := hl.upL hs86 (DFL.cons df188 DFL.nil)
                replace hr := hr.upL hs86 (DFL.cons df189 DFL.nil)
                replace hx := fun x hx0 => (hx x hx0).upL hs86 (DFL.cons df190 DFL.nil)
                replace hy := fun x hy0 => (hy x hy0).upL hs86 (DFL.cons df191 DFL.nil)
                replace ow := ow.upL hs86 (DL.cons dj192 DL.nil)
                replace hxo := fun x hxo_ => (hxo x hxo_).upL hs86 (DFL.cons df193 DFL.nil)
                replace owd := owd.upL hs86 (DL.cons dj194 DL.nil)
                replace rd85 := rd85.upL hs86 (DFL.cons (DF.of dj192) DFL.nil)
                replace hm0 := (Mo.trL (ks := []) (hm0.mdn []) hs86 (MIL.cons (MI.app MI.z (nx197) (Nat.le_refl _)) MIL.nil)).nil
                replace hlm1 := hlm1.trL hs86 (MIL.cons (MI.app MI.z (nx198) (Nat.le_refl _)) MIL.nil)
                have hz30 := hs86.size
                have hle_on := on.le
                rw [List.nil_append, List.drop_zero, List.take_length] at on
                refine LR.v (Y.assign rfl rfl) (Wd.u rfl) rfl rfl ?_
                refine LR.nil ?_
                refine hK10 _ _ ?_
                refine hK9 _ _ ?_
                refine CW.region ?_
                refine LR.v (Y.move rfl rfl) (Wd.u rfl) rfl rfl ?_
                refine LR.v (Y.addi rfl rfl rfl (by omega)) (Wd.u rfl) rfl rfl ?_
                refine LR.v (Y.assign rfl rfl) (Wd.u rfl) rfl rfl ?_
                refine LR.nil ?_
                refine QN.sub (hN6 (i + 1, v86, k86, lo.take j ++ [⟨m[i].k, m[i].d, s37⟩] ++ lo.drop j, fun b => G b ∨ b + 1 = k37) _ ?_ ?_) ⟨rfl, rfl, (iv (by omega)), trivial⟩
                · exact ⟨(by omega), on, insM2 j hxo (fun b e => .inl e) ⟨hmi.k, owd.rd.imp (fun b _ e => .inr e)⟩, BF.or1 (bf_hxo.mono (by omega)) owd.le, DF.or1 (df204) (dj205.symm), by rw [adM_step hil, ← hlo, adM1_miss (x := ⟨m[i].k, m[i].d, s37⟩) hnz his (by rw [hpl])]; simp, (Nx.z (nx208)), hlm1⟩
                · first | omega | (simp only; omega) | (simp; omega)
            ·
              refine LR.gs rfl rfl rfl rfl rfl rfl ?_
              refine LR.gs rfl rfl rfl rfl rfl rfl ?_
              refine LR.gs rfl rfl rfl rfl rfl rfl ?_
              refine LR.gs rfl rfl rfl rfl rfl rfl ?_
              refine LR.gs rfl rfl rfl rfl rfl rfl ?_
              refine LR.gs rfl rfl rfl rfl rfl rfl ?_
              refine LR.gs rfl rfl rfl rfl rfl rfl ?_
              refine LR.gs rfl rfl rfl rfl rfl rfl ?_
              refine LR.v (Y.pick_f rfl rfl rfl) (Wd.u rfl) rfl rfl ?_
              refine LR.nil ?_
              refine hK38 _ _ ?_
              refine CW.cond_f rfl ?_
              refine CW.skip ?_
              refine hK37 _ _ ?_
              refine CW.seq (fun K43 hK43 hE43 => ?_)
              refine CW.region ?_
              have hpl : placeL (lo.map Mm.c) m[i].k = (j, false) := rplace_miss hlt hj (fun hjl => ⟨by first | (simpa using c68) | (exfalso; omega), hst hjl⟩)
              have his : (placeL (lo.map Mm.c) m[i].k).2 = false := by rw [hpl]
              refine LR.v (Y.assign rfl rfl) (Wd.u rfl) rfl rfl ?_
              refine LR.nil ?_
              refine hK43 _ _ ?_
              refine CW.seq (fun K44 hK44 hE44 => ?_)
              refine CW.region ?_
              refine LR.v (Y.move rfl rfl) (Wd.u rfl) rfl rfl ?_
              refine LR.v (Y.move rfl rfl) (Wd.u rfl) rfl rfl ?_
              refine LR.v (Y.move rfl rfl) (Wd.u rfl) rfl rfl ?_
              refine LR.e (g := fun v => v) (Y.slice ow.rd (0) (j) rfl Try.runUnderlying40 Try.sizeOf47 rfl (.inl ⟨rfl, rfl⟩) (.inr ⟨_, _, _, rfl, rfl, by first | rfl | omega⟩) (by omega) (by omega)) (Wd.u rfl) rfl rfl (fun v76 rd76 => ?_)
              have bf_rd76 := BF.of ow.le
              have nl77 : Ow 0 47 Hcut2 fM 33 (.slice none 0 0) [] := Ow.nil fM_len fM_one
              refine LR.z (Z.apnd nl77 rd76 rfl inf40 rfl rfl (by simp; omega) (by simp; omega)) (Wd.u rfl) rfl rfl (fun v77 H77 r77 => ?_)
              obtain ⟨k77, on, hk77, hs77⟩ := r77
              replace hk77 : Nx 0 Hcut2.size k77 := hk77
              replace hs77 := hs77.md
              have df209 := DF.app (DF.z) (bf_hl.mono hm0.size) hk77
              have df210 := DF.app (DF.z) (bf_hr.mono hm0.size) hk77
              have df211 := DF.app (DF.z) (bf_hx.mono hm0.size) hk77
              have df212 := DF.app (DF.z) (bf_hy.mono hm0.size) hk77
              have dj213 : Dj ko k77 := Dj.app (Dj.z) ow.le hk77
              have df214 := DF.app (DF.z) (bf_hxo.mono (by omega)) hk77
              have dj215 : Dj k37 k77 := Dj.app (Dj.z) owd.le hk77
              have dj216 : Dj (H31.size + 1) k77 := Dj.app (Dj.z) hd.lt hk77
              have df217 := DF.app (DF.z) (bf_rd76.mono (by omega)) hk77
              have nx218 : Nx 0 H0.size k77 := Nx.tr (Nx.refl 0 _) hk77 hm0.size
              have nx219 : Nx 0 H12.size k77 := Nx.tr (Nx.refl 0 _) hk77 hlm1.size
              replace hl := hl.upL hs77 (DFL.cons DF.z DFL.nil)
              replace hr := hr.upL hs77 (DFL.cons DF.z DFL.nil)
              replace hx := fun x hx0 => (hx x hx0).upL hs77 (DFL.cons DF.z DFL.nil)
              replace hy := fun x hy0 => (hy x hy0).upL hs77 (DFL.cons DF.z DFL.nil)
              replace ow := ow.upL hs77 (DL.cons Dj.z DL.nil)
              replace hxo := fun x hxo_ => (hxo x hxo_).upL hs77 (DFL.cons DF.z DFL.nil)
              replace owd := owd.upL hs77 (DL.cons Dj.z DL.nil)
              replace hd := hd.upL hs77 (DL.cons Dj.z DL.nil)
              replace rd76 := rd76.upL hs77 (DFL.cons DF.z DFL.nil)
              replace hm0 := (Mo.trL (ks := []) (hm0.mdn []) hs77 (MIL.cons MI.z MIL.nil)).nil
              replace hlm1 := hlm1.trL hs77 (MIL.cons MI.z MIL.nil)
              have hz31 := hs77.size
              have hle_on := on.le
              have hpl : placeL (lo.map Mm.c) m[i].k = (j, false) := rplace_miss hlt hj (fun hjl => ⟨by first | (simpa using c68) | (exfalso; omega), hst hjl⟩)
              have his : (placeL (lo.map Mm.c) m[i].k).2 = false := by rw [hpl]
              refine LR.v (Y.assign rfl rfl) (Wd.u rfl) rfl rfl ?_
              refine LR.nil ?_
              refine hK44 _ _ ?_
              refine CW.seq (fun K45 hK45 hE45 => ?_)
              refine CW.region ?_
              refine LR.v (Y.move rfl rfl) (Wd.u rfl) rfl rfl ?_
              refine LR.v (Y.loadN hd.pt rfl Try.isAgg47 Try.sizeOf47 (fM_len _) rfl) (Wd.u rfl) rfl rfl ?_
              refine LR.z (Z.litw _ ([(⟨m[i].k, m[i].d, s37⟩ : Mm)]) rfl inf40 rfl rfl rfl (by decide) (by decide) fM_len fM_one (rfl)) (Wd.u rfl) rfl rfl (fun v80 H80 r80 => ?_)
              obtain ⟨nw80, hs80, ob80, hH80⟩ := r80
              have hzs80 : H80.size = H77.size + 1 := by rw [hH80]; simp
              have df220 := (DF.new (bf_hl.mono hm0.size) : DF _ (H77.size + 1))
              have df221 := (DF.new (bf_hr.mono hm0.size) : DF _ (H77.size + 1))
              have df222 := (DF.new (bf_hx.mono hm0.size) : DF _ (H77.size + 1))
              have df223 := (DF.new (bf_hy.mono hm0.size) : DF _ (H77.size + 1))
              have dj224 : Dj ko (H77.size + 1) := Dj.new ow.le
              have df225 := (DF.new (bf_hxo.mono (by omega)) : DF _ (H77.size + 1))
              have dj226 : Dj k37 (H77.size + 1) := Dj.new owd.le
              have dj227 : Dj (H31.size + 1) (H77.size + 1) := Dj.new hd.lt
              have dj228 : Dj k77 (H77.size + 1) := Dj.new on.le
              have nx229 : Nx 0 H0.size (H77.size + 1) := Nx.new hm0.size
              have nx230 : Nx 0 H12.size (H77.size + 1) := Nx.new hlm1.size
              replace hl := hl.nw hs80
              replace hr := hr.nw hs80
              replace hx := fun x hx0 => (hx x hx0).nw hs80
              replace hy := fun x hy0 => (hy x hy0).nw hs80
              replace ow := ow.nw hs80
              replace hxo := fun x hxo_ => (hxo x hxo_).nw hs80
              replace owd := owd.nw hs80
              replace hd := hd.nw hs80
              replace on := on.nw hs80
              replace hm0 := hm0.tr hs80
              replace hlm1 := hlm1.trN hs80
              have hz32 := hs80.size
              refine LR.z (Z.apnd on nw80.rd rfl inf40 rfl rfl (by simp; omega) (by simp; omega)) (Wd.u rfl) rfl rfl (fun v81 H81 r81 => ?_)
              obtain ⟨k81, on, hk81, hs81⟩ := r81
              replace hk81 : Nx k77 H80.size k81 := hk81
              replace hs81 := hs81.md
              have df231 := DF.app (df209) (bf_hl.mono hm0.size) hk81
              have df232 := DF.app (df210) (bf_hr.mono hm0.size) hk81
              have df233 := DF.app (df211) (bf_hx.mono hm0.size) hk81
              have df234 := DF.app (df212) (bf_hy.mono hm0.size) hk81
              have dj235 : Dj ko k81 := Dj.app (dj213) ow.le hk81
              have df236 := DF.app (df214) (bf_hxo.mono (by omega)) hk81
              have dj237 : Dj k37 k81 := Dj.app (dj215) owd.le hk81
              have dj238 : Dj (H31.size + 1) k81 := Dj.app (dj216) hd.lt hk81
              have dj239 : Dj (H77.size + 1) k81 := Dj.app (dj228.symm) nw80.le hk81
              have nx240 : Nx 0 H0.size k81 := Nx.tr (nx218) hk81 hm0.size
              have nx241 : Nx 0 H12.size k81 := Nx.tr (nx219) hk81 hlm1.size
              replace hl := hl.upL hs81 (DFL.cons df209 DFL.nil)
              replace hr := hr.upL hs81 (DFL.cons df210 DFL.nil)
              replace hx := fun x hx0 => (hx x hx0).upL hs81 (DFL.cons df211 DFL.nil)
              replace hy := fun x hy0 => (hy x hy0).upL hs81 (DFL.cons df212 DFL.nil)
              replace ow := ow.upL hs81 (DL.cons dj213 DL.nil)
              replace hxo := fun x hxo_ => (hxo x hxo_).upL hs81 (DFL.cons df214 DFL.nil)
              replace owd := owd.upL hs81 (DL.cons dj215 DL.nil)
              replace hd := hd.upL hs81 (DL.cons dj216 DL.nil)
              replace nw80 := nw80.upL hs81 (DL.cons dj228.symm DL.nil)
              replace hm0 := (Mo.trL (ks := []) (hm0.mdn []) hs81 (MIL.cons (MI.app MI.z (nx218) (Nat.le_refl _)) MIL.nil)).nil
              replace hlm1 := hlm1.trL hs81 (MIL.cons (MI.app MI.z (nx219) (Nat.le_refl _)) MIL.nil)
              have hz33 := hs81.size
              have hle_on := on.le
              have hpl : placeL (lo.map Mm.c) m[i].k = (j, false) := rplace_miss hlt hj (fun hjl => ⟨by first | (simpa using c68) | (exfalso; omega), hst hjl⟩)
              have his : (placeL (lo.map Mm.c) m[i].k).2 = false := by rw [hpl]
              refine LR.v (Y.assign rfl rfl) (Wd.u rfl) rfl rfl ?_
              refine LR.nil ?_
              refine hK45 _ _ ?_
              refine CW.region ?_
              refine LR.v (Y.move rfl rfl) (Wd.u rfl) rfl rfl ?_
              refine LR.v (Y.move rfl rfl) (Wd.u rfl) rfl rfl ?_
              refine LR.v (Y.move rfl rfl) (Wd.u rfl) rfl rfl ?_
              refine LR.e (g := fun v => v) (Y.slice ow.rd (j) (lo.length) rfl Try.runUnderlying40 Try.sizeOf47 rfl (.inr ⟨_, _, _, rfl, rfl, by first | rfl | omega⟩) (.inl ⟨rfl, rfl⟩) (by omega) (by omega)) (Wd.u rfl) rfl rfl (fun v85 rd85 => ?_)
              have bf_rd85 := BF.of ow.le
              refine LR.z (Z.apnd on rd85 rfl inf40 rfl rfl (by simp; omega) (by simp; omega)) (Wd.u rfl) rfl rfl (fun v86 H86 r86 => ?_)
              obtain ⟨k86, on, hk86, hs86⟩ := r86
              replace hk86 : Nx k81 H81.size k86 := hk86
              replace hs86 := hs86.md
              have df242 := DF.app (df231) (bf_hl.mono hm0.size) hk86
              have df243 := DF.app (df232) (bf_hr.mono hm0.size) hk86
              have df244 := DF.app (df233) (bf_hx.mono hm0.size) hk86
              have df245 := DF.app (df234) (bf_hy.mono hm0.size) hk86
              have dj246 : Dj ko k86 := Dj.app (dj235) ow.le hk86
              have df247 := DF.app (df236) (bf_hxo.mono (by omega)) hk86
              have dj248 : Dj k37 k86 := Dj.app (dj237) owd.le hk86
              have df249 := DF.app ((DF.of dj235)) (bf_rd85.mono (by omega)) hk86
              have nx250 : Nx 0 H0.size k86 := Nx.tr (nx240) hk86 hm0.size
              have nx251 : Nx 0 H12.size k86 := Nx.tr (nx241) hk86 hlm1.size
              replace hl := hl.upL hs86 (DFL.cons df231 DFL.nil)
              replace hr := hr.upL hs86 (DFL.cons df232 DFL.nil)
              replace hx := fun x hx0 => (hx x hx0).upL hs86 (DFL.cons df233 DFL.nil)
              replace hy := fun x hy0 => (hy x hy0).upL hs86 (DFL.cons df234 DFL.nil)
              replace ow := ow.upL hs86 (DL.cons dj235 DL.nil)
              replace hxo := fun x hxo_ => (hxo x hxo_).upL hs86 (DFL.cons df236 DFL.nil)
              replace owd := owd.upL hs86 (DL.cons dj237 DL.nil)
              replace rd85 := rd85.upL hs86 (DFL.cons (DF.of dj235) DFL.nil)
              replace hm0 := (Mo.trL (ks := []) (hm0.mdn []) hs86 (MIL.cons (MI.app MI.z (nx240) (Nat.le_refl _)) MIL.nil)).nil
              replace hlm1 := hlm1.trL hs86 (MIL.cons (MI.app MI.z (nx241) (Nat.le_refl _)) MIL.nil)
              have hz34 := hs86.size
              have hle_on := on.le
              rw [List.nil_append, List.drop_zero, List.take_length] at on
              refine LR.v (Y.assign rfl rfl) (Wd.u rfl) rfl rfl ?_
              refine LR.nil ?_
              refine hK10 _ _ ?_
              refine hK9 _ _ ?_
              refine CW.region ?_
              refine LR.v (Y.move rfl rfl) (Wd.u rfl) rfl rfl ?_
              refine LR.v (Y.addi rfl rfl rfl (by omega)) (Wd.u rfl) rfl rfl ?_
              refine LR.v (Y.assign rfl rfl) (Wd.u rfl) rfl rfl ?_
              refine LR.nil ?_
              refine QN.sub (hN6 (i + 1, v86, k86, lo.take j ++ [⟨m[i].k, m[i].d, s37⟩] ++ lo.drop j, fun b => G b ∨ b + 1 = k37) _ ?_ ?_) ⟨rfl, rfl, (iv (by omega)), trivial⟩
              · exact ⟨(by omega), on, insM2 j hxo (fun b e => .inl e) ⟨hmi.k, owd.rd.imp (fun b _ e => .inr e)⟩, BF.or1 (bf_hxo.mono (by omega)) owd.le, DF.or1 (df247) (dj248.symm), by rw [adM_step hil, ← hlo, adM1_miss (x := ⟨m[i].k, m[i].d, s37⟩) hnz his (by rw [hpl])]; simp, (Nx.z (nx251)), hlm1⟩
              · first | omega | (simp only; omega) | (simp; omega)
      ·
        refine LO.z rfl (Z.allocv rfl Try.zeroValue47) (Wd.u rfl) rfl rfl (fun v7 H7 r7 => ?_)
        obtain ⟨rfl, hd, hs7, ob7, hH7⟩ := r7
        have hzs7 : H7.size = HL1.size + 1 := by rw [hH7]; simp
        have df252 := (DF.new (bf_hl.mono hm0.size) : DF _ (HL1.size + 1))
        have df253 := (DF.new (bf_hr.mono hm0.size) : DF _ (HL1.size + 1))
        have df254 := (DF.new (bf_hx.mono hm0.size) : DF _ (HL1.size + 1))
        have df255 := (DF.new (bf_hy.mono hm0.size) : DF _ (HL1.size + 1))
        have dj256 : Dj ko (HL1.size + 1) := Dj.new ow.le
        have df257 := (DF.new (bf_hxo.mono (by omega)) : DF _ (HL1.size + 1))
        have df258 := (DF.new (bf_pt28.mono hm0.size) : DF _ (HL1.size + 1))
        have df259 := (DF.new (bf_pt34.mono hm0.size) : DF _ (HL1.size + 1))
        have nx260 : Nx 0 H0.size (HL1.size + 1) := Nx.new hm0.size
        have nx261 : Nx 0 H12.size (HL1.size + 1) := Nx.new hlm1.size
        have nx262 : Nx 0 HL1.size (HL1.size + 1) := Nx.new hq6.size
        replace hl := hl.nw hs7
        replace hr := hr.nw hs7
        replace hx := fun x hx0 => (hx x hx0).nw hs7
        replace hy := fun x hy0 => (hy x hy0).nw hs7
        replace ow := ow.nw hs7
        replace hxo := fun x hxo_ => (hxo x hxo_).nw hs7
        replace pt28 := pt28.nw hs7
        replace pt34 := pt34.nw hs7
        replace hm0 := hm0.tr hs7
        replace hlm1 := hlm1.trN hs7
        replace hq6 := hq6.tr hs7
        have hz35 := hs7.size
        refine ⟨.inr hq6, LH.narrow (SH2 := fun Hq => Nw H7 Hq) (fun Hq hq => hq6.tr hq) ?_⟩
        have hq6 : Nw H7 H7 := Mo.refl _ _
        refine LH.one (i := 5) (by kernel_rfl) ?_
        refine LO.z rfl (Z.litw _ (([] : List UInt8)) rfl inf22 rfl rfl rfl (by decide) (by decide) fB_len fB_one (rfl)) (Wd.u rfl) rfl rfl (fun v31 H31 r31 => ?_)
        obtain ⟨owd, hs31, ob31, hH31⟩ := r31
        have hzs31 : H31.size = H7.size + 1 := by rw [hH31]; simp
        have df263 := (DF.new (bf_hl.mono hm0.size) : DF _ (H7.size + 1))
        have df264 := (DF.new (bf_hr.mono hm0.size) : DF _ (H7.size + 1))
        have df265 := (DF.new (bf_hx.mono hm0.size) : DF _ (H7.size + 1))
        have df266 := (DF.new (bf_hy.mono hm0.size) : DF _ (H7.size + 1))
        have dj267 : Dj ko (H7.size + 1) := Dj.new ow.le
        have df268 := (DF.new (bf_hxo.mono (by omega)) : DF _ (H7.size + 1))
        have df269 := (DF.new (bf_pt28.mono hm0.size) : DF _ (H7.size + 1))
        have df270 := (DF.new (bf_pt34.mono hm0.size) : DF _ (H7.size + 1))
        have dj271 : Dj (HL1.size + 1) (H7.size + 1) := Dj.new hd.lt
        have nx272 : Nx 0 H0.size (H7.size + 1) := Nx.new hm0.size
        have nx273 : Nx 0 H12.size (H7.size + 1) := Nx.new hlm1.size
        have nx274 : Nx 0 H7.size (H7.size + 1) := Nx.new hq6.size
        replace hl := hl.nw hs31
        replace hr := hr.nw hs31
        replace hx := fun x hx0 => (hx x hx0).nw hs31
        replace hy := fun x hy0 => (hy x hy0).nw hs31
        replace ow := ow.nw hs31
        replace hxo := fun x hxo_ => (hxo x hxo_).nw hs31
        replace pt28 := pt28.nw hs31
        replace pt34 := pt34.nw hs31
        replace hd := hd.nw hs31
        replace hm0 := hm0.tr hs31
        replace hlm1 := hlm1.trN hs31
        replace hq6 := hq6.tr hs31
        have hz36 := hs31.size
        refine ⟨.inr hq6, LH.narrow (SH2 := fun Hq => Mo (Ms [(H7.size + 1)]) H31 Hq) (fun Hq hq => (Mo.trL (ks := []) (hq6.mdn []) hq (MIL.cons (MI.app MI.z (nx274) (Nat.le_refl _)) MIL.nil)).nil) ?_⟩
        have hq6 : Mo (Ms [(H7.size + 1)]) H31 H31 := Mo.refl _ _
        have nx275 := Nx.refl (H7.size + 1) H31.size
        refine LH.one (i := 11) (by kernel_rfl) ?_
        refine LO.z rfl (Z.apnd owd (hy m[i] (List.getElem_mem hil)).d.any rfl inf22 rfl rfl (by simp; omega) (by simp; omega)) (Wd.u rfl) rfl rfl (fun v37 H37 r37 => ?_)
        obtain ⟨k37, owd, hk37, hs37⟩ := r37
        replace hk37 : Nx (H7.size + 1) H31.size k37 := hk37
        replace hs37 := hs37.md
        have df276 := DF.app (df263) (bf_hl.mono hm0.size) hk37
        have df277 := DF.app (df264) (bf_hr.mono hm0.size) hk37
        have df278 := DF.app (df265) (bf_hx.mono hm0.size) hk37
        have df279 := DF.app (df266) (bf_hy.mono hm0.size) hk37
        have dj280 : Dj ko k37 := Dj.app (dj267) ow.le hk37
        have df281 := DF.app (df268) (bf_hxo.mono (by omega)) hk37
        have df282 := DF.app (df269) (bf_pt28.mono hm0.size) hk37
        have df283 := DF.app (df270) (bf_pt34.mono hm0.size) hk37
        have dj284 : Dj (HL1.size + 1) k37 := Dj.app (dj271) hd.lt hk37
        have nx285 : Nx 0 H0.size k37 := Nx.tr (nx272) hk37 hm0.size
        have nx286 : Nx 0 H12.size k37 := Nx.tr (nx273) hk37 hlm1.size
        have nx287 : Nx (H7.size + 1) H31.size k37 := Nx.tr (nx275) hk37 hq6.size
        replace hl := hl.upL hs37 (DFL.cons df263 DFL.nil)
        replace hr := hr.upL hs37 (DFL.cons df264 DFL.nil)
        replace hx := fun x hx0 => (hx x hx0).upL hs37 (DFL.cons df265 DFL.nil)
        replace hy := fun x hy0 => (hy x hy0).upL hs37 (DFL.cons df266 DFL.nil)
        replace ow := ow.upL hs37 (DL.cons dj267 DL.nil)
        replace hxo := fun x hxo_ => (hxo x hxo_).upL hs37 (DFL.cons df268 DFL.nil)
        replace pt28 := pt28.upL hs37 (DFL.cons df269 DFL.nil)
        replace pt34 := pt34.upL hs37 (DFL.cons df270 DFL.nil)
        replace hd := hd.upL hs37 (DL.cons dj271 DL.nil)
        replace hm0 := (Mo.trL (ks := []) (hm0.mdn []) hs37 (MIL.cons (MI.app MI.z (nx272) (Nat.le_refl _)) MIL.nil)).nil
        replace hlm1 := hlm1.trL hs37 (MIL.cons (MI.app MI.z (nx273) (Nat.le_refl _)) MIL.nil)
        replace hq6 := hq6.trL hs37 (MIL.cons (MI.app (MI.root (by simp)) (nx275) (Nat.le_refl _)) MIL.nil)
        have hz37 := hs37.size
        have hle_owd := owd.le
        obtain ⟨s37, rfl⟩ : ∃ s : SV, v37 = s.v := ⟨toSV v37, owd.sv.symm⟩
        rw [List.nil_append] at owd
        refine ⟨.inr hq6, LH.narrow (SH2 := fun Hq => Mo (Ms [k37]) H37 Hq) (fun Hq hq => hq6.trL hq (MIL.cons (MI.app (MI.root (by simp)) (nx287) (Nat.le_refl _)) MIL.nil)) ?_⟩
        have hq6 : Mo (Ms [k37]) H37 H37 := Mo.refl _ _
        have nx288 := Nx.refl k37 H37.size
        refine LH.take (v := .agg (fM ⟨m[i].k, m[i].d, s37⟩).toArray) 12 (by kernel_rfl) rfl (by kernel_rfl) (by kernel_rfl) (by kernel_rfl) (fun Hq hq => ?_) (Wd.u rfl) rfl rfl hq6 ?_
        · exact Y.build (v := .agg (fM ⟨m[i].k, m[i].d, s37⟩).toArray) rfl rfl (by intro w; exact build_mm hki s37 _)
        refine LH.one (i := 14) (by kernel_rfl) ?_
        refine LO.s rfl (S.var hd (_) (fM ⟨m[i].k, m[i].d, s37⟩) rfl rfl rfl rfl (fM_one ⟨m[i].k, m[i].d, s37⟩) Try.sizeOf47 (fM_len _) (by decide) ((splice_all2 (fM_len _).symm))) (Wd.u rfl) rfl (fun H6_14 r6_14 => ?_)
        obtain ⟨hd, hs6_14⟩ := r6_14
        replace hs6_14 := hs6_14.md1
        replace hl := hl.upL hs6_14 (DFL.cons df252 DFL.nil)
        replace hr := hr.upL hs6_14 (DFL.cons df253 DFL.nil)
        replace hx := fun x hx0 => (hx x hx0).upL hs6_14 (DFL.cons df254 DFL.nil)
        replace hy := fun x hy0 => (hy x hy0).upL hs6_14 (DFL.cons df255 DFL.nil)
        replace ow := ow.upL hs6_14 (DL.cons dj256 DL.nil)
        replace hxo := fun x hxo_ => (hxo x hxo_).upL hs6_14 (DFL.cons df257 DFL.nil)
        replace pt28 := pt28.upL hs6_14 (DFL.cons df258 DFL.nil)
        replace pt34 := pt34.upL hs6_14 (DFL.cons df259 DFL.nil)
        replace owd := owd.upL hs6_14 (DL.cons dj284.symm DL.nil)
        replace hm0 := (Mo.trL (ks := []) (hm0.mdn []) hs6_14 (MIL.cons (MI.app MI.z (nx260) (Nat.le_refl _)) MIL.nil)).nil
        replace hlm1 := hlm1.trL hs6_14 (MIL.cons (MI.app MI.z (nx261) (Nat.le_refl _)) MIL.nil)
        -- LOST hq6
        have hz38 := hs6_14.size
        refine ⟨.inl rfl, ?_⟩
        refine LH.done (by kernel_rfl) ?_
        refine hK13 _ _ ?_
        refine CW.seq (fun K46 hK46 hE46 => ?_)
        refine CW.region ?_
        refine LR.v (Y.assign rfl rfl) (Wd.u rfl) rfl rfl ?_
        refine LR.nil ?_
        refine hK46 _ _ ?_
        refine CW.cut (fun (j : (Nat)) => [(1, v2), (5, vo), (6, .int .i64 i), (7, .pointer (some ⟨HL1.size, 0, none⟩)), (8, .int .i64 j)])
          (fun (j : (Nat)) (H : Heap) => (j ≤ lo.length) ∧ (∀ x ∈ (lo.map Mm.c).take j, Op.bytesLess x.1 m[i].k = true) ∧ (∀ h : j < lo.length, Op.bytesLess lo[j].k m[i].k = false) ∧ Nw H6_14 H) (fun K47 hK47 hE47 => ?_) ?_
        ·
          have hcm47 : Nw H6_14 H6_14 := Mo.refl _ _
          refine CW.block (fun K48 hK48 hX48 hE48 => ?_)
          refine CW.loop (fun (j : (Nat)) => [(1, v2), (5, vo), (6, .int .i64 i), (7, .pointer (some ⟨HL1.size, 0, none⟩)), (8, .int .i64 j)])
            (fun (j : (Nat)) (H : Heap) => (j ≤ lo.length) ∧ (∀ x ∈ (lo.map Mm.c).take j, Op.bytesLess x.1 m[i].k = true) ∧ Nw H6_14 H)
            (fun (j : (Nat)) => lo.length - j) 0 ⟨rfl, rfl, rfl, rfl, rfl, trivial⟩ ?_ ?_
          ·
            exact ⟨(by omega), (fun x h => by simp at h), Mo.refl _ _⟩
          intro j HL2 hI2 K49 hN49 hE49
          obtain ⟨hj, hlt, hlm2⟩ := hI2
          replace hl := hl.nw hlm2
          replace hr := hr.nw hlm2
          replace hx := fun x hx0 => (hx x hx0).nw hlm2
          replace hy := fun x hy0 => (hy x hy0).nw hlm2
          replace ow := ow.nw hlm2
          replace hxo := fun x hxo_ => (hxo x hxo_).nw hlm2
          replace hd := hd.nw hlm2
          replace owd := owd.nw hlm2
          replace hm0 := hm0.tr hlm2
          replace hlm1 := hlm1.trN hlm2
          replace hcm47 := hcm47.tr hlm2
          have hz39 := hlm2.size
          refine CW.seq (fun K50 hK50 hE50 => ?_)
          refine CW.seq (fun K51 hK51 hE51 => ?_)
          refine CW.region_tail 12 rfl (by kernel_rfl) (fun T8 hT8 => ?_)
          refine LR.v (Y.move rfl rfl) (Wd.u rfl) rfl rfl ?_
          refine LR.v (Y.move rfl rfl) (Wd.u rfl) rfl rfl ?_
          refine LR.v (Y.len ow.rd rfl Try.runUnderlying40 rfl) (Wd.u rfl) rfl rfl ?_
          refine LR.v (Y.lss rfl rfl rfl) (Wd.u rfl) rfl rfl ?_
          refine LR.v (Y.move rfl rfl) (Wd.u rfl) rfl rfl ?_
          refine LR.splitp (d := 43) rfl (fun g43 => ?_) (fun g43 => ?_)
          ·
            refine LR.v (Y.move rfl rfl) (Wd.g rfl rfl rfl) rfl rfl ?_
            refine LR.v (Y.move rfl rfl) (Wd.g rfl rfl rfl) rfl rfl ?_
            have hjl : j < lo.length := by omega
            have hkj := (hxo lo[j] (List.getElem_mem hjl)).k
            refine LR.v (Y.owAddr ow (j) rfl Try.runUnderlying40 Try.sizeOf47 rfl rfl (by first | rfl | omega) (by first | omega | (simp; omega) | (simp; done))) (Wd.g rfl rfl rfl) rfl rfl ?_
            refine LR.v (Y.fieldAddr (ow.pt (j := j) (by first | omega | (simp; omega) | (simp; done))) rfl Try.runUnderlying47 rfl rfl Try.sizeOf25 (by decide) rfl) (Wd.g rfl rfl rfl) rfl rfl ?_
            refine LR.v (Y.cast (v2 := idV lo[j].k) (Y.loadN (((ow.pt (j := j) (by first | omega | (simp; omega) | (simp; done))).drop 0).take 32) rfl Try.isAgg25 Try.sizeOf25 (by simp [kc_len]) rfl) (congrArg (fun x : List Value => Value.agg x.toArray) (kc_at _ hkj))) (Wd.g rfl rfl rfl) rfl rfl ?_
            refine LR.v (Y.fieldAddr hd.pt rfl Try.runUnderlying47 rfl rfl Try.sizeOf25 (by decide) rfl) (Wd.g rfl rfl rfl) rfl rfl ?_
            refine LR.v (Y.cast (v2 := idV m[i].k) (Y.loadN (hd.pt.take 32) rfl Try.isAgg25 Try.sizeOf25 (by simp [kc_len]) rfl) (congrArg (fun x : List Value => Value.agg x.toArray) (kc_at _ hki))) (Wd.g rfl rfl rfl) rfl rfl ?_
            refine LR.nil (hT8 _ ?_)
            -- call selvage/selvageref1.Less
            refine LR.call rfl Try.call20 rfl (Wd.g rfl rfl rfl) rfl rfl (rless_ct lo[j].k m[i].k w0 _ hkj hki) (fun v51 H51 r51 => ?_)
            obtain ⟨rfl, hs51⟩ := r51
            replace hl := hl.nw hs51
            replace hr := hr.nw hs51
            replace hx := fun x hx0 => (hx x hx0).nw hs51
            replace hy := fun x hy0 => (hy x hy0).nw hs51
            replace ow := ow.nw hs51
            replace hxo := fun x hxo_ => (hxo x hxo_).nw hs51
            replace hd := hd.nw hs51
            replace owd := owd.nw hs51
            replace hm0 := hm0.tr hs51
            replace hlm1 := hlm1.trN hs51
            replace hcm47 := hcm47.tr hs51
            replace hlm2 := hlm2.tr hs51
            have hz40 := hs51.size
            refine LR.v (Y.pick_t rfl rfl rfl) (Wd.u rfl) rfl rfl ?_
            refine LR.nil ?_
            refine hK51 _ _ ?_
            refine CW.cond rfl (fun c52 => ?_) (fun c52 => ?_)
            ·
              refine CW.skip ?_
              refine hK50 _ _ ?_
              refine CW.block (fun K52 hK52 hX52 hE52 => ?_)
              refine CW.region ?_
              refine LR.v (Y.move rfl rfl) (Wd.u rfl) rfl rfl ?_
              refine LR.v (Y.addi rfl rfl rfl (by omega)) (Wd.u rfl) rfl rfl ?_
              refine LR.v (Y.assign rfl rfl) (Wd.u rfl) rfl rfl ?_
              refine LR.nil ?_
              refine hK52 _ _ ?_
              refine QN.sub (hN49 (j + 1) _ ?_ ?_) ⟨rfl, rfl, (iv (by omega)), rfl, (iv (by omega)), trivial⟩
              · exact ⟨(by omega), less_step hlt hjl (by simpa using c52), hlm2⟩
              · first | omega | (simp only; omega) | (simp; omega)
            ·
              refine CW.exit (hE50 (.exit 2) nofun _ _ (hE49 (.exit 2) nofun _ _ (hX48 _ _ ?_)))
              refine QN.sub (hK47 j _ ?_) ⟨rfl, rfl, (iv (by omega)), rfl, (iv (by omega)), trivial⟩
              exact ⟨(by omega), hlt, (fun _ => by simpa using c52), hcm47⟩
          ·
            refine LR.gs rfl rfl rfl rfl rfl rfl ?_
            refine LR.gs rfl rfl rfl rfl rfl rfl ?_
            refine LR.gs rfl rfl rfl rfl rfl rfl ?_
            refine LR.gs rfl rfl rfl rfl rfl rfl ?_
            refine LR.gs rfl rfl rfl rfl rfl rfl ?_
            refine LR.gs rfl rfl rfl rfl rfl rfl ?_
            refine LR.gs rfl rfl rfl rfl rfl rfl ?_
            refine LR.nil (hT8 _ ?_)
            refine LR.gs rfl rfl rfl rfl rfl rfl ?_
            refine LR.v (Y.pick_f rfl rfl rfl) (Wd.u rfl) rfl rfl ?_
            refine LR.nil ?_
            refine hK51 _ _ ?_
            refine CW.cond_f rfl ?_
            refine CW.exit (hE50 (.exit 2) nofun _ _ (hE49 (.exit 2) nofun _ _ (hX48 _ _ ?_)))
            refine QN.sub (hK47 j _ ?_) ⟨rfl, rfl, (iv (by omega)), rfl, (iv (by omega)), trivial⟩
            exact ⟨(by omega), hlt, (fun h => absurd h (by omega)), hcm47⟩
        ·
          intro j Hcut2 hIcut2
          obtain ⟨hj, hlt, hst, hlmcut2⟩ := hIcut2
          replace hl := hl.nw hlmcut2
          replace hr := hr.nw hlmcut2
          replace hx := fun x hx0 => (hx x hx0).nw hlmcut2
          replace hy := fun x hy0 => (hy x hy0).nw hlmcut2
          replace ow := ow.nw hlmcut2
          replace hxo := fun x hxo_ => (hxo x hxo_).nw hlmcut2
          replace hd := hd.nw hlmcut2
          replace owd := owd.nw hlmcut2
          replace hm0 := hm0.tr hlmcut2
          replace hlm1 := hlm1.trN hlmcut2
          have hz41 := hlmcut2.size
          refine CW.seq (fun K53 hK53 hE53 => ?_)
          refine CW.seq (fun K54 hK54 hE54 => ?_)
          refine CW.region_draw rfl (by kernel_rfl) ?_
          refine LR.v (Y.move rfl rfl) (Wd.u rfl) rfl rfl ?_
          refine LR.v (Y.move rfl rfl) (Wd.u rfl) rfl rfl ?_
          refine LR.v (Y.len ow.rd rfl Try.runUnderlying40 rfl) (Wd.u rfl) rfl rfl ?_
          refine LR.v (Y.lss rfl rfl rfl) (Wd.u rfl) rfl rfl ?_
          refine LR.v (Y.move rfl rfl) (Wd.u rfl) rfl rfl ?_
          refine LR.splitp (d := 59) rfl (fun g59 => ?_) (fun g59 => ?_)
          ·
            refine LR.v (Y.move rfl rfl) (Wd.g rfl rfl rfl) rfl rfl ?_
            refine LR.v (Y.move rfl rfl) (Wd.g rfl rfl rfl) rfl rfl ?_
            have hjl : j < lo.length := by omega
            have hkj := (hxo lo[j] (List.getElem_mem hjl)).k
            refine LR.v (Y.owAddr ow (j) rfl Try.runUnderlying40 Try.sizeOf47 rfl rfl (by first | rfl | omega) (by first | omega | (simp; omega) | (simp; done))) (Wd.g rfl rfl rfl) rfl rfl ?_
            refine LR.v (Y.fieldAddr (ow.pt (j := j) (by first | omega | (simp; omega) | (simp; done))) rfl Try.runUnderlying47 rfl rfl Try.sizeOf25 (by decide) rfl) (Wd.g rfl rfl rfl) rfl rfl ?_
            refine LR.v (Y.cast (v2 := idV lo[j].k) (Y.loadN (((ow.pt (j := j) (by first | omega | (simp; omega) | (simp; done))).drop 0).take 32) rfl Try.isAgg25 Try.sizeOf25 (by simp [kc_len]) rfl) (congrArg (fun x : List Value => Value.agg x.toArray) (kc_at _ hkj))) (Wd.g rfl rfl rfl) rfl rfl ?_
            refine LR.v (Y.fieldAddr hd.pt rfl Try.runUnderlying47 rfl rfl Try.sizeOf25 (by decide) rfl) (Wd.g rfl rfl rfl) rfl rfl ?_
            refine LR.v (Y.cast (v2 := idV m[i].k) (Y.loadN (hd.pt.take 32) rfl Try.isAgg25 Try.sizeOf25 (by simp [kc_len]) rfl) (congrArg (fun x : List Value => Value.agg x.toArray) (kc_at _ hki))) (Wd.g rfl rfl rfl) rfl rfl ?_
            refine LR.v (Y.aeql rfl Try.eqGuardType25 (fun w => run_equalIn_id 9998 Try.underlying25 Try.underlying5 Try.sizeOf5 Try.isAgg5 (hkj) (hki) w) rfl rfl) (Wd.g rfl rfl rfl) rfl rfl ?_
            refine LR.v (Y.pick_t rfl rfl rfl) (Wd.u rfl) rfl rfl ?_
            refine LR.nil ?_
            refine hK54 _ _ ?_
            refine CW.condp rfl (fun c68 => ?_) (fun c68 => ?_)
            ·
              have hpl := rplace_hit hlt hjl (by simpa using c68)
              have his : (placeL (lo.map Mm.c) m[i].k).2 = true := by rw [hpl]
              refine CW.seq (fun K55 hK55 hE55 => ?_)
              refine CW.region ?_
              refine LR.v (Y.move rfl rfl) (Wd.u rfl) rfl rfl ?_
              refine LR.v (Y.move rfl rfl) (Wd.u rfl) rfl rfl ?_
              refine LR.v (Y.loadN hd.pt rfl Try.isAgg47 Try.sizeOf47 (fM_len _) rfl) (Wd.u rfl) rfl rfl ?_
              refine LR.v (Y.owAddr ow (j) rfl Try.runUnderlying40 Try.sizeOf47 rfl rfl (by first | rfl | omega) (by first | omega | (simp; omega) | (simp; done))) (Wd.u rfl) rfl rfl ?_
              refine LR.s (S.owwN ow j 0 (⟨m[i].k, m[i].d, s37⟩ : Mm) (fM ⟨m[i].k, m[i].d, s37⟩) rfl rfl rfl rfl (fM_one _) Try.sizeOf47 (fM_len _) hjl (by decide) (splice_all2 (by rw [fM_len, fM_len])).symm) (Wd.u rfl) rfl (fun H11_4 r11_4 => ?_)
              obtain ⟨ow, hs11_4⟩ := r11_4
              replace hs11_4 := hs11_4.md
              replace hl := hl.upL hs11_4 (DFL.cons df11 DFL.nil)
              replace hr := hr.upL hs11_4 (DFL.cons df12 DFL.nil)
              replace hx := fun x hx0 => (hx x hx0).upL hs11_4 (DFL.cons df13 DFL.nil)
              replace hy := fun x hy0 => (hy x hy0).upL hs11_4 (DFL.cons df14 DFL.nil)
              replace hxo := fun x hxo_ => (hxo x hxo_).upL hs11_4 (DFL.cons fgw DFL.nil)
              replace hd := hd.upL hs11_4 (DL.cons dj256.symm DL.nil)
              replace owd := owd.upL hs11_4 (DL.cons dj280.symm DL.nil)
              replace hm0 := (Mo.trL (ks := []) (hm0.mdn []) hs11_4 (MIL.cons (MI.app MI.z (nx15) (Nat.le_refl _)) MIL.nil)).nil
              replace hlm1 := hlm1.trL hs11_4 (MIL.cons (MI.app (MI.root (by simp)) (nx16) (Nat.le_refl _)) MIL.nil)
              have hz42 := hs11_4.size
              refine LR.nil ?_
              refine hK55 _ _ ?_
              refine CW.exit (hE53 (.exit 1) nofun _ _ (hX10 _ _ ?_))
              refine hK9 _ _ ?_
              refine CW.region ?_
              refine LR.v (Y.move rfl rfl) (Wd.u rfl) rfl rfl ?_
              refine LR.v (Y.addi rfl rfl rfl (by omega)) (Wd.u rfl) rfl rfl ?_
              refine LR.v (Y.assign rfl rfl) (Wd.u rfl) rfl rfl ?_
              refine LR.nil ?_
              refine QN.sub (hN6 (i + 1, vo, ko, lo.set j ⟨m[i].k, m[i].d, s37⟩, fun b => G b ∨ b + 1 = k37) _ ?_ ?_) ⟨rfl, rfl, (iv (by omega)), trivial⟩
              · exact ⟨(by omega), ow, setM j hxo (fun b e => .inl e) ⟨hmi.k, owd.rd.imp (fun b _ e => .inr e)⟩, BF.or1 (bf_hxo.mono (by omega)) owd.le, DF.or1 (fgw) (dj280), by rw [adM_step hil, ← hlo]; exact (adM1_hit (x := ⟨m[i].k, m[i].d, s37⟩) hnz his (by rw [hpl])).symm, nx16, hlm1⟩
              · first | omega | (simp only; omega) | (simp; omega)
            ·
              refine CW.skip ?_
              refine hK53 _ _ ?_
              refine CW.seq (fun K56 hK56 hE56 => ?_)
              refine CW.region ?_
              have hpl : placeL (lo.map Mm.c) m[i].k = (j, false) := rplace_miss hlt hj (fun hjl => ⟨by first | (simpa using c68) | (exfalso; omega), hst hjl⟩)
              have his : (placeL (lo.map Mm.c) m[i].k).2 = false := by rw [hpl]
              refine LR.v (Y.assign rfl rfl) (Wd.u rfl) rfl rfl ?_
              refine LR.nil ?_
              refine hK56 _ _ ?_
              refine CW.seq (fun K57 hK57 hE57 => ?_)
              refine CW.region ?_
              refine LR.v (Y.move rfl rfl) (Wd.u rfl) rfl rfl ?_
              refine LR.v (Y.move rfl rfl) (Wd.u rfl) rfl rfl ?_
              refine LR.v (Y.move rfl rfl) (Wd.u rfl) rfl rfl ?_
              refine LR.e (g := fun v => v) (Y.slice ow.rd (0) (j) rfl Try.runUnderlying40 Try.sizeOf47 rfl (.inl ⟨rfl, rfl⟩) (.inr ⟨_, _, _, rfl, rfl, by first | rfl | omega⟩) (by omega) (by omega)) (Wd.u rfl) rfl rfl (fun v76 rd76 => ?_)
              have bf_rd76 := BF.of ow.le
              have nl77 : Ow 0 47 Hcut2 fM 33 (.slice none 0 0) [] := Ow.nil fM_len fM_one
              refine LR.z (Z.apnd nl77 rd76 rfl inf40 rfl rfl (by simp; omega) (by simp; omega)) (Wd.u rfl) rfl rfl (fun v77 H77 r77 => ?_)
              obtain ⟨k77, on, hk77, hs77⟩ := r77
              replace hk77 : Nx 0 Hcut2.size k77 := hk77
              replace hs77 := hs77.md
              have df289 := DF.app (DF.z) (bf_hl.mono hm0.size) hk77
              have df290 := DF.app (DF.z) (bf_hr.mono hm0.size) hk77
              have df291 := DF.app (DF.z) (bf_hx.mono hm0.size) hk77
              have df292 := DF.app (DF.z) (bf_hy.mono hm0.size) hk77
              have dj293 : Dj ko k77 := Dj.app (Dj.z) ow.le hk77
              have df294 := DF.app (DF.z) (bf_hxo.mono (by omega)) hk77
              have dj295 : Dj (HL1.size + 1) k77 := Dj.app (Dj.z) hd.lt hk77
              have dj296 : Dj k37 k77 := Dj.app (Dj.z) owd.le hk77
              have df297 := DF.app (DF.z) (bf_rd76.mono (by omega)) hk77
              have nx298 : Nx 0 H0.size k77 := Nx.tr (Nx.refl 0 _) hk77 hm0.size
              have nx299 : Nx 0 H12.size k77 := Nx.tr (Nx.refl 0 _) hk77 hlm1.size
              replace hl := hl.upL hs77 (DFL.cons DF.z DFL.nil)
              replace hr := hr.upL hs77 (DFL.cons DF.z DFL.nil)
              replace hx := fun x hx0 => (hx x hx0).upL hs77 (DFL.cons DF.z DFL.nil)
              replace hy := fun x hy0 => (hy x hy0).upL hs77 (DFL.cons DF.z DFL.nil)
              replace ow := ow.upL hs77 (DL.cons Dj.z DL.nil)
              replace hxo := fun x hxo_ => (hxo x hxo_).upL hs77 (DFL.cons DF.z DFL.nil)
              replace hd := hd.upL hs77 (DL.cons Dj.z DL.nil)
              replace owd := owd.upL hs77 (DL.cons Dj.z DL.nil)
              replace rd76 := rd76.upL hs77 (DFL.cons DF.z DFL.nil)
              replace hm0 := (Mo.trL (ks := []) (hm0.mdn []) hs77 (MIL.cons MI.z MIL.nil)).nil
              replace hlm1 := hlm1.trL hs77 (MIL.cons MI.z MIL.nil)
              have hz43 := hs77.size
              have hle_on := on.le
              have hpl : placeL (lo.map Mm.c) m[i].k = (j, false) := rplace_miss hlt hj (fun hjl => ⟨by first | (simpa using c68) | (exfalso; omega), hst hjl⟩)
              have his : (placeL (lo.map Mm.c) m[i].k).2 = false := by rw [hpl]
              refine LR.v (Y.assign rfl rfl) (Wd.u rfl) rfl rfl ?_
              refine LR.nil ?_
              refine hK57 _ _ ?_
              refine CW.seq (fun K58 hK58 hE58 => ?_)
              refine CW.region ?_
              refine LR.v (Y.move rfl rfl) (Wd.u rfl) rfl rfl ?_
              refine LR.v (Y.loadN hd.pt rfl Try.isAgg47 Try.sizeOf47 (fM_len _) rfl) (Wd.u rfl) rfl rfl ?_
              refine LR.z (Z.litw _ ([(⟨m[i].k, m[i].d, s37⟩ : Mm)]) rfl inf40 rfl rfl rfl (by decide) (by decide) fM_len fM_one (rfl)) (Wd.u rfl) rfl rfl (fun v80 H80 r80 => ?_)
              obtain ⟨nw80, hs80, ob80, hH80⟩ := r80
              have hzs80 : H80.size = H77.size + 1 := by rw [hH80]; simp
              have df300 := (DF.new (bf_hl.mono hm0.size) : DF _ (H77.size + 1))
              have df301 := (DF.new (bf_hr.mono hm0.size) : DF _ (H77.size + 1))
              have df302 := (DF.new (bf_hx.mono hm0.size) : DF _ (H77.size + 1))
              have df303 := (DF.new (bf_hy.mono hm0.size) : DF _ (H77.size + 1))
              have dj304 : Dj ko (H77.size + 1) := Dj.new ow.le
              have df305 := (DF.new (bf_hxo.mono (by omega)) : DF _ (H77.size + 1))
              have dj306 : Dj (HL1.size + 1) (H77.size + 1) := Dj.new hd.lt
              have dj307 : Dj k37 (H77.size + 1) := Dj.new owd.le
              have dj308 : Dj k77 (H77.size + 1) := Dj.new on.le
              have nx309 : Nx 0 H0.size (H77.size + 1) := Nx.new hm0.size
              have nx310 : Nx 0 H12.size (H77.size + 1) := Nx.new hlm1.size
              replace hl := hl.nw hs80
              replace hr := hr.nw hs80
              replace hx := fun x hx0 => (hx x hx0).nw hs80
              replace hy := fun x hy0 => (hy x hy0).nw hs80
              replace ow := ow.nw hs80
              replace hxo := fun x hxo_ => (hxo x hxo_).nw hs80
              replace hd := hd.nw hs80
              replace owd := owd.nw hs80
              replace on := on.nw hs80
              replace hm0 := hm0.tr hs80
              replace hlm1 := hlm1.trN hs80
              have hz44 := hs80.size
              refine LR.z (Z.apnd on nw80.rd rfl inf40 rfl rfl (by simp; omega) (by simp; omega)) (Wd.u rfl) rfl rfl (fun v81 H81 r81 => ?_)
              obtain ⟨k81, on, hk81, hs81⟩ := r81
              replace hk81 : Nx k77 H80.size k81 := hk81
              replace hs81 := hs81.md
              have df311 := DF.app (df289) (bf_hl.mono hm0.size) hk81
              have df312 := DF.app (df290) (bf_hr.mono hm0.size) hk81
              have df313 := DF.app (df291) (bf_hx.mono hm0.size) hk81
              have df314 := DF.app (df292) (bf_hy.mono hm0.size) hk81
              have dj315 : Dj ko k81 := Dj.app (dj293) ow.le hk81
              have df316 := DF.app (df294) (bf_hxo.mono (by omega)) hk81
              have dj317 : Dj (HL1.size + 1) k81 := Dj.app (dj295) hd.lt hk81
              have dj318 : Dj k37 k81 := Dj.app (dj296) owd.le hk81
              have dj319 : Dj (H77.size + 1) k81 := Dj.app (dj308.symm) nw80.le hk81
              have nx320 : Nx 0 H0.size k81 := Nx.tr (nx298) hk81 hm0.size
              have nx321 : Nx 0 H12.size k81 := Nx.tr (nx299) hk81 hlm1.size
              replace hl := hl.upL hs81 (DFL.cons df289 DFL.nil)
              replace hr := hr.upL hs81 (DFL.cons df290 DFL.nil)
              replace hx := fun x hx0 => (hx x hx0).upL hs81 (DFL.cons df291 DFL.nil)
              replace hy := fun x hy0 => (hy x hy0).upL hs81 (DFL.cons df292 DFL.nil)
              replace ow := ow.upL hs81 (DL.cons dj293 DL.nil)
              replace hxo := fun x hxo_ => (hxo x hxo_).upL hs81 (DFL.cons df294 DFL.nil)
              replace hd := hd.upL hs81 (DL.cons dj295 DL.nil)
              replace owd := owd.upL hs81 (DL.cons dj296 DL.nil)
              replace nw80 := nw80.upL hs81 (DL.cons dj308.symm DL.nil)
              replace hm0 := (Mo.trL (ks := []) (hm0.mdn []) hs81 (MIL.cons (MI.app MI.z (nx298) (Nat.le_refl _)) MIL.nil)).nil
              replace hlm1 := hlm1.trL hs81 (MIL.cons (MI.app MI.z (nx299) (Nat.le_refl _)) MIL.nil)
              have hz45 := hs81.size
              have hle_on := on.le
              have hpl : placeL (lo.map Mm.c) m[i].k = (j, false) := rplace_miss hlt hj (fun hjl => ⟨by first | (simpa using c68) | (exfalso; omega), hst hjl⟩)
              have his : (placeL (lo.map Mm.c) m[i].k).2 = false := by rw [hpl]
              refine LR.v (Y.assign rfl rfl) (Wd.u rfl) rfl rfl ?_
              refine LR.nil ?_
              refine hK58 _ _ ?_
              refine CW.region ?_
              refine LR.v (Y.move rfl rfl) (Wd.u rfl) rfl rfl ?_
              refine LR.v (Y.move rfl rfl) (Wd.u rfl) rfl rfl ?_
              refine LR.v (Y.move rfl rfl) (Wd.u rfl) rfl rfl ?_
              refine LR.e (g := fun v => v) (Y.slice ow.rd (j) (lo.length) rfl Try.runUnderlying40 Try.sizeOf47 rfl (.inr ⟨_, _, _, rfl, rfl, by first | rfl | omega⟩) (.inl ⟨rfl, rfl⟩) (by omega) (by omega)) (Wd.u rfl) rfl rfl (fun v85 rd85 => ?_)
              have bf_rd85 := BF.of ow.le
              refine LR.z (Z.apnd on rd85 rfl inf40 rfl rfl (by simp; omega) (by simp; omega)) (Wd.u rfl) rfl rfl (fun v86 H86 r86 => ?_)
              obtain ⟨k86, on, hk86, hs86⟩ := r86
              replace hk86 : Nx k81 H81.size k86 := hk86
              replace hs86 := hs86.md
              have df322 := DF.app (df311) (bf_hl.mono hm0.size) hk86
              have df323 := DF.app (df312) (bf_hr.mono hm0.size) hk86
              have df324 := DF.app (df313) (bf_hx.mono hm0.size) hk86
              have df325 := DF.app (df314) (bf_hy.mono hm0.size) hk86
              have dj326 : Dj ko k86 := Dj.app (dj315) ow.le hk86
              have df327 := DF.app (df316) (bf_hxo.mono (by omega)) hk86
              have dj328 : Dj k37 k86 := Dj.app (dj318) owd.le hk86
              have df329 := DF.app ((DF.of dj315)) (bf_rd85.mono (by omega)) hk86
              have nx330 : Nx 0 H0.size k86 := Nx.tr (nx320) hk86 hm0.size
              have nx331 : Nx 0 H12.size k86 := Nx.tr (nx321) hk86 hlm1.size
              replace hl := hl.upL hs86 (DFL.cons df311 DFL.nil)
              replace hr := hr.upL hs86 (DFL.cons df312 DFL.nil)
              replace hx := fun x hx0 => (hx x hx0).upL hs86 (DFL.cons df313 DFL.nil)
              replace hy := fun x hy0 => (hy x hy0).upL hs86 (DFL.cons df314 DFL.nil)
              replace ow := ow.upL hs86 (DL.cons dj315 DL.nil)
              replace hxo := fun x hxo_ => (hxo x hxo_).upL hs86 (DFL.cons df316 DFL.nil)
              replace owd := owd.upL hs86 (DL.cons dj318 DL.nil)
              replace rd85 := rd85.upL hs86 (DFL.cons (DF.of dj315) DFL.nil)
              replace hm0 := (Mo.trL (ks := []) (hm0.mdn []) hs86 (MIL.cons (MI.app MI.z (nx320) (Nat.le_refl _)) MIL.nil)).nil
              replace hlm1 := hlm1.trL hs86 (MIL.cons (MI.app MI.z (nx321) (Nat.le_refl _)) MIL.nil)
              have hz46 := hs86.size
              have hle_on := on.le
              rw [List.nil_append, List.drop_zero, List.take_length] at on
              refine LR.v (Y.assign rfl rfl) (Wd.u rfl) rfl rfl ?_
              refine LR.nil ?_
              refine hK10 _ _ ?_
              refine hK9 _ _ ?_
              refine CW.region ?_
              refine LR.v (Y.move rfl rfl) (Wd.u rfl) rfl rfl ?_
              refine LR.v (Y.addi rfl rfl rfl (by omega)) (Wd.u rfl) rfl rfl ?_
              refine LR.v (Y.assign rfl rfl) (Wd.u rfl) rfl rfl ?_
              refine LR.nil ?_
              refine QN.sub (hN6 (i + 1, v86, k86, lo.take j ++ [⟨m[i].k, m[i].d, s37⟩] ++ lo.drop j, fun b => G b ∨ b + 1 = k37) _ ?_ ?_) ⟨rfl, rfl, (iv (by omega)), trivial⟩
              · exact ⟨(by omega), on, insM2 j hxo (fun b e => .inl e) ⟨hmi.k, owd.rd.imp (fun b _ e => .inr e)⟩, BF.or1 (bf_hxo.mono (by omega)) owd.le, DF.or1 (df327) (dj328.symm), by rw [adM_step hil, ← hlo, adM1_miss (x := ⟨m[i].k, m[i].d, s37⟩) hnz his (by rw [hpl])]; simp, (Nx.z (nx331)), hlm1⟩
              · first | omega | (simp only; omega) | (simp; omega)
          ·
            refine LR.gs rfl rfl rfl rfl rfl rfl ?_
            refine LR.gs rfl rfl rfl rfl rfl rfl ?_
            refine LR.gs rfl rfl rfl rfl rfl rfl ?_
            refine LR.gs rfl rfl rfl rfl rfl rfl ?_
            refine LR.gs rfl rfl rfl rfl rfl rfl ?_
            refine LR.gs rfl rfl rfl rfl rfl rfl ?_
            refine LR.gs rfl rfl rfl rfl rfl rfl ?_
            refine LR.gs rfl rfl rfl rfl rfl rfl ?_
            refine LR.v (Y.pick_f rfl rfl rfl) (Wd.u rfl) rfl rfl ?_
            refine LR.nil ?_
            refine hK54 _ _ ?_
            refine CW.cond_f rfl ?_
            refine CW.skip ?_
            refine hK53 _ _ ?_
            refine CW.seq (fun K59 hK59 hE59 => ?_)
            refine CW.region ?_
            have hpl : placeL (lo.map Mm.c) m[i].k = (j, false) := rplace_miss hlt hj (fun hjl => ⟨by first | (simpa using c68) | (exfalso; omega), hst hjl⟩)
            have his : (placeL (lo.map Mm.c) m[i].k).2 = false := by rw [hpl]
            refine LR.v (Y.assign rfl rfl) (Wd.u rfl) rfl rfl ?_
            refine LR.nil ?_
            refine hK59 _ _ ?_
            refine CW.seq (fun K60 hK60 hE60 => ?_)
            refine CW.region ?_
            refine LR.v (Y.move rfl rfl) (Wd.u rfl) rfl rfl ?_
            refine LR.v (Y.move rfl rfl) (Wd.u rfl) rfl rfl ?_
            refine LR.v (Y.move rfl rfl) (Wd.u rfl) rfl rfl ?_
            refine LR.e (g := fun v => v) (Y.slice ow.rd (0) (j) rfl Try.runUnderlying40 Try.sizeOf47 rfl (.inl ⟨rfl, rfl⟩) (.inr ⟨_, _, _, rfl, rfl, by first | rfl | omega⟩) (by omega) (by omega)) (Wd.u rfl) rfl rfl (fun v76 rd76 => ?_)
            have bf_rd76 := BF.of ow.le
            have nl77 : Ow 0 47 Hcut2 fM 33 (.slice none 0 0) [] := Ow.nil fM_len fM_one
            refine LR.z (Z.apnd nl77 rd76 rfl inf40 rfl rfl (by simp; omega) (by simp; omega)) (Wd.u rfl) rfl rfl (fun v77 H77 r77 => ?_)
            obtain ⟨k77, on, hk77, hs77⟩ := r77
            replace hk77 : Nx 0 Hcut2.size k77 := hk77
            replace hs77 := hs77.md
            have df332 := DF.app (DF.z) (bf_hl.mono hm0.size) hk77
            have df333 := DF.app (DF.z) (bf_hr.mono hm0.size) hk77
            have df334 := DF.app (DF.z) (bf_hx.mono hm0.size) hk77
            have df335 := DF.app (DF.z) (bf_hy.mono hm0.size) hk77
            have dj336 : Dj ko k77 := Dj.app (Dj.z) ow.le hk77
            have df337 := DF.app (DF.z) (bf_hxo.mono (by omega)) hk77
            have dj338 : Dj (HL1.size + 1) k77 := Dj.app (Dj.z) hd.lt hk77
            have dj339 : Dj k37 k77 := Dj.app (Dj.z) owd.le hk77
            have df340 := DF.app (DF.z) (bf_rd76.mono (by omega)) hk77
            have nx341 : Nx 0 H0.size k77 := Nx.tr (Nx.refl 0 _) hk77 hm0.size
            have nx342 : Nx 0 H12.size k77 := Nx.tr (Nx.refl 0 _) hk77 hlm1.size
            replace hl := hl.upL hs77 (DFL.cons DF.z DFL.nil)
            replace hr := hr.upL hs77 (DFL.cons DF.z DFL.nil)
            replace hx := fun x hx0 => (hx x hx0).upL hs77 (DFL.cons DF.z DFL.nil)
            replace hy := fun x hy0 => (hy x hy0).upL hs77 (DFL.cons DF.z DFL.nil)
            replace ow := ow.upL hs77 (DL.cons Dj.z DL.nil)
            replace hxo := fun x hxo_ => (hxo x hxo_).upL hs77 (DFL.cons DF.z DFL.nil)
            replace hd := hd.upL hs77 (DL.cons Dj.z DL.nil)
            replace owd := owd.upL hs77 (DL.cons Dj.z DL.nil)
            replace rd76 := rd76.upL hs77 (DFL.cons DF.z DFL.nil)
            replace hm0 := (Mo.trL (ks := []) (hm0.mdn []) hs77 (MIL.cons MI.z MIL.nil)).nil
            replace hlm1 := hlm1.trL hs77 (MIL.cons MI.z MIL.nil)
            have hz47 := hs77.size
            have hle_on := on.le
            have hpl : placeL (lo.map Mm.c) m[i].k = (j, false) := rplace_miss hlt hj (fun hjl => ⟨by first | (simpa using c68) | (exfalso; omega), hst hjl⟩)
            have his : (placeL (lo.map Mm.c) m[i].k).2 = false := by rw [hpl]
            refine LR.v (Y.assign rfl rfl) (Wd.u rfl) rfl rfl ?_
            refine LR.nil ?_
            refine hK60 _ _ ?_
            refine CW.seq (fun K61 hK61 hE61 => ?_)
            refine CW.region ?_
            refine LR.v (Y.move rfl rfl) (Wd.u rfl) rfl rfl ?_
            refine LR.v (Y.loadN hd.pt rfl Try.isAgg47 Try.sizeOf47 (fM_len _) rfl) (Wd.u rfl) rfl rfl ?_
            refine LR.z (Z.litw _ ([(⟨m[i].k, m[i].d, s37⟩ : Mm)]) rfl inf40 rfl rfl rfl (by decide) (by decide) fM_len fM_one (rfl)) (Wd.u rfl) rfl rfl (fun v80 H80 r80 => ?_)
            obtain ⟨nw80, hs80, ob80, hH80⟩ := r80
            have hzs80 : H80.size = H77.size + 1 := by rw [hH80]; simp
            have df343 := (DF.new (bf_hl.mono hm0.size) : DF _ (H77.size + 1))
            have df344 := (DF.new (bf_hr.mono hm0.size) : DF _ (H77.size + 1))
            have df345 := (DF.new (bf_hx.mono hm0.size) : DF _ (H77.size + 1))
            have df346 := (DF.new (bf_hy.mono hm0.size) : DF _ (H77.size + 1))
            have dj347 : Dj ko (H77.size + 1) := Dj.new ow.le
            have df348 := (DF.new (bf_hxo.mono (by omega)) : DF _ (H77.size + 1))
            have dj349 : Dj (HL1.size + 1) (H77.size + 1) := Dj.new hd.lt
            have dj350 : Dj k37 (H77.size + 1) := Dj.new owd.le
            have dj351 : Dj k77 (H77.size + 1) := Dj.new on.le
            have nx352 : Nx 0 H0.size (H77.size + 1) := Nx.new hm0.size
            have nx353 : Nx 0 H12.size (H77.size + 1) := Nx.new hlm1.size
            replace hl := hl.nw hs80
            replace hr := hr.nw hs80
            replace hx := fun x hx0 => (hx x hx0).nw hs80
            replace hy := fun x hy0 => (hy x hy0).nw hs80
            replace ow := ow.nw hs80
            replace hxo := fun x hxo_ => (hxo x hxo_).nw hs80
            replace hd := hd.nw hs80
            replace owd := owd.nw hs80
            replace on := on.nw hs80
            replace hm0 := hm0.tr hs80
            replace hlm1 := hlm1.trN hs80
            have hz48 := hs80.size
            refine LR.z (Z.apnd on nw80.rd rfl inf40 rfl rfl (by simp; omega) (by simp; omega)) (Wd.u rfl) rfl rfl (fun v81 H81 r81 => ?_)
            obtain ⟨k81, on, hk81, hs81⟩ := r81
            replace hk81 : Nx k77 H80.size k81 := hk81
            replace hs81 := hs81.md
            have df354 := DF.app (df332) (bf_hl.mono hm0.size) hk81
            have df355 := DF.app (df333) (bf_hr.mono hm0.size) hk81
            have df356 := DF.app (df334) (bf_hx.mono hm0.size) hk81
            have df357 := DF.app (df335) (bf_hy.mono hm0.size) hk81
            have dj358 : Dj ko k81 := Dj.app (dj336) ow.le hk81
            have df359 := DF.app (df337) (bf_hxo.mono (by omega)) hk81
            have dj360 : Dj (HL1.size + 1) k81 := Dj.app (dj338) hd.lt hk81
            have dj361 : Dj k37 k81 := Dj.app (dj339) owd.le hk81
            have dj362 : Dj (H77.size + 1) k81 := Dj.app (dj351.symm) nw80.le hk81
            have nx363 : Nx 0 H0.size k81 := Nx.tr (nx341) hk81 hm0.size
            have nx364 : Nx 0 H12.size k81 := Nx.tr (nx342) hk81 hlm1.size
            replace hl := hl.upL hs81 (DFL.cons df332 DFL.nil)
            replace hr := hr.upL hs81 (DFL.cons df333 DFL.nil)
            replace hx := fun x hx0 => (hx x hx0).upL hs81 (DFL.cons df334 DFL.nil)
            replace hy := fun x hy0 => (hy x hy0).upL hs81 (DFL.cons df335 DFL.nil)
            replace ow := ow.upL hs81 (DL.cons dj336 DL.nil)
            replace hxo := fun x hxo_ => (hxo x hxo_).upL hs81 (DFL.cons df337 DFL.nil)
            replace hd := hd.upL hs81 (DL.cons dj338 DL.nil)
            replace owd := owd.upL hs81 (DL.cons dj339 DL.nil)
            replace nw80 := nw80.upL hs81 (DL.cons dj351.symm DL.nil)
            replace hm0 := (Mo.trL (ks := []) (hm0.mdn []) hs81 (MIL.cons (MI.app MI.z (nx341) (Nat.le_refl _)) MIL.nil)).nil
            replace hlm1 := hlm1.trL hs81 (MIL.cons (MI.app MI.z (nx342) (Nat.le_refl _)) MIL.nil)
            have hz49 := hs81.size
            have hle_on := on.le
            have hpl : placeL (lo.map Mm.c) m[i].k = (j, false) := rplace_miss hlt hj (fun hjl => ⟨by first | (simpa using c68) | (exfalso; omega), hst hjl⟩)
            have his : (placeL (lo.map Mm.c) m[i].k).2 = false := by rw [hpl]
            refine LR.v (Y.assign rfl rfl) (Wd.u rfl) rfl rfl ?_
            refine LR.nil ?_
            refine hK61 _ _ ?_
            refine CW.region ?_
            refine LR.v (Y.move rfl rfl) (Wd.u rfl) rfl rfl ?_
            refine LR.v (Y.move rfl rfl) (Wd.u rfl) rfl rfl ?_
            refine LR.v (Y.move rfl rfl) (Wd.u rfl) rfl rfl ?_
            refine LR.e (g := fun v => v) (Y.slice ow.rd (j) (lo.length) rfl Try.runUnderlying40 Try.sizeOf47 rfl (.inr ⟨_, _, _, rfl, rfl, by first | rfl | omega⟩) (.inl ⟨rfl, rfl⟩) (by omega) (by omega)) (Wd.u rfl) rfl rfl (fun v85 rd85 => ?_)
            have bf_rd85 := BF.of ow.le
            refine LR.z (Z.apnd on rd85 rfl inf40 rfl rfl (by simp; omega) (by simp; omega)) (Wd.u rfl) rfl rfl (fun v86 H86 r86 => ?_)
            obtain ⟨k86, on, hk86, hs86⟩ := r86
            replace hk86 : Nx k81 H81.size k86 := hk86
            replace hs86 := hs86.md
            have df365 := DF.app (df354) (bf_hl.mono hm0.size) hk86
            have df366 := DF.app (df355) (bf_hr.mono hm0.size) hk86
            have df367 := DF.app (df356) (bf_hx.mono hm0.size) hk86
            have df368 := DF.app (df357) (bf_hy.mono hm0.size) hk86
            have dj369 : Dj ko k86 := Dj.app (dj358) ow.le hk86
            have df370 := DF.app (df359) (bf_hxo.mono (by omega)) hk86
            have dj371 : Dj k37 k86 := Dj.app (dj361) owd.le hk86
            have df372 := DF.app ((DF.of dj358)) (bf_rd85.mono (by omega)) hk86
            have nx373 : Nx 0 H0.size k86 := Nx.tr (nx363) hk86 hm0.size
            have nx374 : Nx 0 H12.size k86 := Nx.tr (nx364) hk86 hlm1.size
            replace hl := hl.upL hs86 (DFL.cons df354 DFL.nil)
            replace hr := hr.upL hs86 (DFL.cons df355 DFL.nil)
            replace hx := fun x hx0 => (hx x hx0).upL hs86 (DFL.cons df356 DFL.nil)
            replace hy := fun x hy0 => (hy x hy0).upL hs86 (DFL.cons df357 DFL.nil)
            replace ow := ow.upL hs86 (DL.cons dj358 DL.nil)
            replace hxo := fun x hxo_ => (hxo x hxo_).upL hs86 (DFL.cons df359 DFL.nil)
            replace owd := owd.upL hs86 (DL.cons dj361 DL.nil)
            replace rd85 := rd85.upL hs86 (DFL.cons (DF.of dj358) DFL.nil)
            replace hm0 := (Mo.trL (ks := []) (hm0.mdn []) hs86 (MIL.cons (MI.app MI.z (nx363) (Nat.le_refl _)) MIL.nil)).nil
            replace hlm1 := hlm1.trL hs86 (MIL.cons (MI.app MI.z (nx364) (Nat.le_refl _)) MIL.nil)
            have hz50 := hs86.size
            have hle_on := on.le
            rw [List.nil_append, List.drop_zero, List.take_length] at on
            refine LR.v (Y.assign rfl rfl) (Wd.u rfl) rfl rfl ?_
            refine LR.nil ?_
            refine hK10 _ _ ?_
            refine hK9 _ _ ?_
            refine CW.region ?_
            refine LR.v (Y.move rfl rfl) (Wd.u rfl) rfl rfl ?_
            refine LR.v (Y.addi rfl rfl rfl (by omega)) (Wd.u rfl) rfl rfl ?_
            refine LR.v (Y.assign rfl rfl) (Wd.u rfl) rfl rfl ?_
            refine LR.nil ?_
            refine QN.sub (hN6 (i + 1, v86, k86, lo.take j ++ [⟨m[i].k, m[i].d, s37⟩] ++ lo.drop j, fun b => G b ∨ b + 1 = k37) _ ?_ ?_) ⟨rfl, rfl, (iv (by omega)), trivial⟩
            · exact ⟨(by omega), on, insM2 j hxo (fun b e => .inl e) ⟨hmi.k, owd.rd.imp (fun b _ e => .inr e)⟩, BF.or1 (bf_hxo.mono (by omega)) owd.le, DF.or1 (df370) (dj371.symm), by rw [adM_step hil, ← hlo, adM1_miss (x := ⟨m[i].k, m[i].d, s37⟩) hnz his (by rw [hpl])]; simp, (Nx.z (nx374)), hlm1⟩
            · first | omega | (simp only; omega) | (simp; omega)
  ·
    have hil : i = m.length := by omega
    rw [hil, List.take_length] at hlo
    refine CW.exit (hE7 (.exit 0) nofun _ _ (hE6 (.exit 0) nofun _ _ (hX5 _ _ ?_)))
    refine hK3 _ _ ?_
    refine CW.seq (fun K62 hK62 hE62 => ?_)
    refine CW.region ?_
    refine LR.v (Y.move rfl rfl) (Wd.u rfl) rfl rfl ?_
    refine LR.v (Y.assign rfl rfl) (Wd.u rfl) rfl rfl ?_
    refine LR.nil ?_
    refine hK62 _ _ ?_
    refine CW.ret (hret .ret (.inr rfl) _ _ _ (res1 rfl rfl) ?_)
    exact ⟨vo, ko, lo, G, rfl, ow, nx15, hxo, bf_hxo, fgw, hlo, hm0⟩

end Go.Proofs.Ytegfnfhdgbcjbaa.RerK
