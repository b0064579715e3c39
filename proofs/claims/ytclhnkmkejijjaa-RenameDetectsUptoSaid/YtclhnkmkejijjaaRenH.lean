/-
  The changes of two trees; numbers within.
-/
import Derived.Test.YtclhnkmkejijjaaRenG
namespace Go.Proofs.Ytclhnkmkejijjaa.RenH
open Go.Proofs.Ytclhnkmkejijjaa.E Go.RowKit Go.Proofs.Ytclhnkmkejijjaa.RenA Go.Proofs.Ytclhnkmkejijjaa.RenB Go.Proofs.Ytclhnkmkejijjaa.RenC Go.Proofs.Ytclhnkmkejijjaa.RenD Go.Proofs.Ytclhnkmkejijjaa.RenE Go.Proofs.Ytclhnkmkejijjaa.RenF Go.Proofs.Ytclhnkmkejijjaa.RenG
set_option maxRecDepth 20000
set_option linter.unusedVariables false
set_option linter.unusedSimpArgs false
set_option linter.unusedSectionVars false
set_option maxRecDepth 100000 in
theorem inf28 : Inf Try.prog 28 49 6 96 := ⟨Try.underlying28, _, _, rfl, rfl, rfl, rfl, rfl⟩

def sameF (x y : Fl) : Bool := decide (x.p = y.p) && decide (x.k = y.k) && decide (x.d = y.d)
/-- the changes that make a row of files another one -/
def diffL : List Fl → List Fl → List Ch
  | [], [] => []
  | x :: a, [] => ⟨x, zFl⟩ :: diffL a []
  | [], y :: b => ⟨zFl, y⟩ :: diffL [] b
  | x :: a, y :: b => if Op.bytesLess x.p y.p = true then ⟨x, zFl⟩ :: diffL a (y :: b) else if Op.bytesLess y.p x.p = true then ⟨zFl, y⟩ :: diffL (x :: a) b else if sameF x y = true then diffL a b else ⟨x, y⟩ :: diffL a b
termination_by a b => a.length + b.length
theorem diff_a {a b : List Fl} {i k : Nat} (hi : i < a.length) (h : b.length ≤ k ∨ ∃ hk : k < b.length, Op.bytesLess a[i].p b[k].p = true) : diffL (a.drop i) (b.drop k) = ⟨a[i], zFl⟩ :: diffL (a.drop (i + 1)) (b.drop k) := by
  rw [List.drop_eq_getElem_cons hi]
  rcases h with h | ⟨hk, h⟩
  · rw [List.drop_of_length_le h, diffL]
  · rw [List.drop_eq_getElem_cons hk, diffL, if_pos h]
theorem diff_b {a b : List Fl} {i k : Nat} (hk : k < b.length) (h : a.length ≤ i ∨ ∃ hi : i < a.length, Op.bytesLess a[i].p b[k].p = false ∧ Op.bytesLess b[k].p a[i].p = true) : diffL (a.drop i) (b.drop k) = ⟨zFl, b[k]⟩ :: diffL (a.drop i) (b.drop (k + 1)) := by
  rw [List.drop_eq_getElem_cons hk]
  rcases h with h | ⟨hi, h, h2⟩
  · rw [List.drop_of_length_le h, diffL]
  · rw [List.drop_eq_getElem_cons hi, diffL, if_neg (by simp [h]), if_pos h2]
theorem diff_c {a b : List Fl} {i k : Nat} (hi : i < a.length) (hk : k < b.length) (h1 : Op.bytesLess a[i].p b[k].p = false) (h2 : Op.bytesLess b[k].p a[i].p = false) : diffL (a.drop i) (b.drop k) = if sameF a[i] b[k] = true then diffL (a.drop (i + 1)) (b.drop (k + 1)) else ⟨a[i], b[k]⟩ :: diffL (a.drop (i + 1)) (b.drop (k + 1)) := by
  rw [List.drop_eq_getElem_cons hi, List.drop_eq_getElem_cons hk, diffL, if_neg (by simp [h1]), if_neg (by simp [h2])]
theorem diff_end {a b : List Fl} {i k : Nat} (hi : a.length ≤ i) (hk : b.length ≤ k) : diffL (a.drop i) (b.drop k) = [] := by
  rw [List.drop_of_length_le hi, List.drop_of_length_le hk, diffL]

theorem samef_ct (x y : Fl) (w0 : World) (H0 : Heap)
    (hx : RdT H0 fB 1 x.v.v x.d) (hy : RdT H0 fB 1 y.v.v y.d) :
    Ct Try.prog w0 28 #[.agg (fFl x).toArray, .agg (fFl y).toArray] H0 (fun r H2 => r = .bool (sameF x y) ∧ Nw H0 H2) := by
  refine Ct.enter (args := [.agg (fFl x).toArray, .agg (fFl y).toArray]) Try.func28 rfl rfl rfl ?_
  intro Q0 hret
  have hm0 : Nw H0 H0 := Mo.refl _ _
  replace hx := hx.bnd
  have bf_hx := Rd.bf hx
  replace hy := hy.bnd
  have bf_hy := Rd.bf hy
  refine CW.seq (fun K1 hK1 hE1 => ?_)
  refine CW.region ?_
  refine LR.z (Z.boxv rfl rfl) (Wd.u rfl) rfl rfl (fun v2 H2 r2 => ?_)
  obtain ⟨rfl, va, hs2, ob2, hH2⟩ := r2
  have hzs2 : H2.size = H0.size + 1 := by rw [hH2]; simp
  have df1 := (DF.new (bf_hx.mono hm0.size) : DF _ (H0.size + 1))
  have df2 := (DF.new (bf_hy.mono hm0.size) : DF _ (H0.size + 1))
  have nx3 : Nx 0 H0.size (H0.size + 1) := Nx.new hm0.size
  replace hx := hx.nw hs2
  replace hy := hy.nw hs2
  replace hm0 := hm0.tr hs2
  have hz1 := hs2.size
  replace va : Var 35 H2 H0.size (fFl x) := va
  refine LR.z (Z.boxv rfl rfl) (Wd.u rfl) rfl rfl (fun v3 H3 r3 => ?_)
  obtain ⟨rfl, vb, hs3, ob3, hH3⟩ := r3
  have hzs3 : H3.size = H2.size + 1 := by rw [hH3]; simp
  have df4 := (DF.new (bf_hx.mono hm0.size) : DF _ (H2.size + 1))
  have df5 := (DF.new (bf_hy.mono hm0.size) : DF _ (H2.size + 1))
  have dj6 : Dj (H0.size + 1) (H2.size + 1) := Dj.new va.lt
  have nx7 : Nx 0 H0.size (H2.size + 1) := Nx.new hm0.size
  replace hx := hx.nw hs3
  replace hy := hy.nw hs3
  replace va := va.nw hs3
  replace hm0 := hm0.tr hs3
  have hz2 := hs3.size
  replace vb : Var 35 H3 H2.size (fFl y) := vb
  refine LR.v (Y.assign rfl rfl) (Wd.u rfl) rfl rfl ?_
  refine LR.nil ?_
  refine hK1 _ _ ?_
  refine CW.seq (fun K2 hK2 hE2 => ?_)
  refine CW.region ?_
  refine LR.v (Y.fieldAddr va.pt rfl Try.runUnderlying35 rfl rfl Try.sizeOf9 (by decide) rfl) (Wd.u rfl) rfl rfl ?_
  refine LR.v (Y.load1 va.pt rfl Try.isAgg9 rfl) (Wd.u rfl) rfl rfl ?_
  refine LR.v (Y.fieldAddr vb.pt rfl Try.runUnderlying35 rfl rfl Try.sizeOf9 (by decide) rfl) (Wd.u rfl) rfl rfl ?_
  refine LR.v (Y.load1 vb.pt rfl Try.isAgg9 rfl) (Wd.u rfl) rfl rfl ?_
  refine LR.v (Y.seql rfl rfl rfl) (Wd.u rfl) rfl rfl ?_
  refine LR.v (Y.move rfl rfl) (Wd.u rfl) rfl rfl ?_
  refine LR.splitp (d := 10) rfl (fun g10 => ?_) (fun g10 => ?_)
  ·
    refine LR.v (Y.fieldAddr va.pt rfl Try.runUnderlying35 rfl rfl Try.sizeOf3 (by decide) rfl) (Wd.g rfl rfl rfl) rfl rfl ?_
    refine LR.v (Y.load1 (va.pt.drop 1) rfl Try.isAgg3 rfl) (Wd.g rfl rfl rfl) rfl rfl ?_
    refine LR.v (Y.fieldAddr vb.pt rfl Try.runUnderlying35 rfl rfl Try.sizeOf3 (by decide) rfl) (Wd.g rfl rfl rfl) rfl rfl ?_
    refine LR.v (Y.load1 (vb.pt.drop 1) rfl Try.isAgg3 rfl) (Wd.g rfl rfl rfl) rfl rfl ?_
    refine LR.v (Y.eql rfl rfl rfl) (Wd.g rfl rfl rfl) rfl rfl ?_
    refine LR.v (Y.pick_t rfl rfl rfl) (Wd.u rfl) rfl rfl ?_
    refine LR.v (Y.move rfl rfl) (Wd.u rfl) rfl rfl ?_
    refine LR.splitp (d := 17) rfl (fun g17 => ?_) (fun g17 => ?_)
    ·
      refine LR.v (Y.fieldAddr va.pt rfl Try.runUnderlying35 rfl rfl Try.sizeOf22 (by decide) rfl) (Wd.g rfl rfl rfl) rfl rfl ?_
      refine LR.v (Y.load1 (va.pt.drop 2) rfl Try.isAgg22 rfl) (Wd.g rfl rfl rfl) rfl rfl ?_
      refine LR.v (Y.bstr hx rfl Try.underlying22 Try.underlying9 Try.underlying5 rfl) (Wd.g rfl rfl rfl) rfl rfl ?_
      refine LR.v (Y.fieldAddr vb.pt rfl Try.runUnderlying35 rfl rfl Try.sizeOf22 (by decide) rfl) (Wd.g rfl rfl rfl) rfl rfl ?_
      refine LR.v (Y.load1 (vb.pt.drop 2) rfl Try.isAgg22 rfl) (Wd.g rfl rfl rfl) rfl rfl ?_
      refine LR.v (Y.bstr hy rfl Try.underlying22 Try.underlying9 Try.underlying5 rfl) (Wd.g rfl rfl rfl) rfl rfl ?_
      refine LR.v (Y.seql rfl rfl rfl) (Wd.g rfl rfl rfl) rfl rfl ?_
      refine LR.v (Y.pick_t rfl rfl rfl) (Wd.u rfl) rfl rfl ?_
      refine LR.v (Y.assign rfl rfl) (Wd.u rfl) rfl rfl ?_
      refine LR.nil ?_
      refine hK2 _ _ ?_
      refine CW.ret (hret .ret (.inr rfl) _ _ _ (res1 rfl rfl) ?_)
      exact ⟨by simp [sameF, *], hm0⟩
    ·
      refine LR.gs rfl rfl rfl rfl rfl rfl ?_
      refine LR.gs rfl rfl rfl rfl rfl rfl ?_
      refine LR.gs rfl rfl rfl rfl rfl rfl ?_
      refine LR.gs rfl rfl rfl rfl rfl rfl ?_
      refine LR.gs rfl rfl rfl rfl rfl rfl ?_
      refine LR.gs rfl rfl rfl rfl rfl rfl ?_
      refine LR.gs rfl rfl rfl rfl rfl rfl ?_
      refine LR.v (Y.pick_f rfl rfl rfl) (Wd.u rfl) rfl rfl ?_
      refine LR.v (Y.assign rfl rfl) (Wd.u rfl) rfl rfl ?_
      refine LR.nil ?_
      refine hK2 _ _ ?_
      refine CW.ret (hret .ret (.inr rfl) _ _ _ (res1 rfl rfl) ?_)
      exact ⟨by simp [sameF, *], hm0⟩
  ·
    refine LR.gs rfl rfl rfl rfl rfl rfl ?_
    refine LR.gs rfl rfl rfl rfl rfl rfl ?_
    refine LR.gs rfl rfl rfl rfl rfl rfl ?_
    refine LR.gs rfl rfl rfl rfl rfl rfl ?_
    refine LR.gs rfl rfl rfl rfl rfl rfl ?_
    refine LR.v (Y.pick_f rfl rfl rfl) (Wd.u rfl) rfl rfl ?_
    refine LR.v (Y.move rfl rfl) (Wd.u rfl) rfl rfl ?_
    refine LR.gs rfl rfl rfl rfl rfl rfl ?_
    refine LR.gs rfl rfl rfl rfl rfl rfl ?_
    refine LR.gs rfl rfl rfl rfl rfl rfl ?_
    refine LR.gs rfl rfl rfl rfl rfl rfl ?_
    refine LR.gs rfl rfl rfl rfl rfl rfl ?_
    refine LR.gs rfl rfl rfl rfl rfl rfl ?_
    refine LR.gs rfl rfl rfl rfl rfl rfl ?_
    refine LR.v (Y.pick_f rfl rfl rfl) (Wd.u rfl) rfl rfl ?_
    refine LR.v (Y.assign rfl rfl) (Wd.u rfl) rfl rfl ?_
    refine LR.nil ?_
    refine hK2 _ _ ?_
    refine CW.ret (hret .ret (.inr rfl) _ _ _ (res1 rfl rfl) ?_)
    exact ⟨by simp [sameF, *], hm0⟩

set_option maxHeartbeats 8000000 in
theorem diff_ct (v1 v2 : Value) (a b : List Fl) (w0 : World) (H0 : Heap)
    (ha : RdT H0 fFl 3 v1 a) (hb : RdT H0 fFl 3 v2 b) (hx : ∀ x ∈ a, FlR (fun _ => True) H0 x) (hy : ∀ x ∈ b, FlR (fun _ => True) H0 x) (hal : a.length ≤ 100000) (hbl : b.length ≤ 100000) :
    Ct Try.prog w0 14 #[v1, v2] H0 (fun r H2 => ∃ vr : Value, ∃ kr : Nat, r = vr ∧ (Ow kr 49 H2 fCh 6 vr (diffL a b)) ∧ (Nx 0 H0.size kr) ∧ ((diffL a b).length ≤ a.length + b.length) ∧ Nw H0 H2) := by
  refine Ct.enter (args := [v1, v2]) Try.func14 rfl rfl rfl ?_
  intro Q0 hret
  have hm0 : Nw H0 H0 := Mo.refl _ _
  replace ha := ha.bnd
  have bf_ha := Rd.bf ha
  replace hb := hb.bnd
  have bf_hb := Rd.bf hb
  replace hx := fun x hx0 => (hx x hx0).bnd
  have bf_hx : BF (fun b => True ∧ b < H0.size) H0.size := fun b h => h.2
  replace hy := fun x hy0 => (hy x hy0).bnd
  have bf_hy : BF (fun b => True ∧ b < H0.size) H0.size := fun b h => h.2
  refine CW.seq (fun K1 hK1 hE1 => ?_)
  refine CW.region ?_
  refine LR.v (Y.assign rfl rfl) (Wd.u rfl) rfl rfl ?_
  refine LR.nil ?_
  refine hK1 _ _ ?_
  refine CW.seq (fun K2 hK2 hE2 => ?_)
  refine CW.region ?_
  refine LR.v (Y.assign rfl rfl) (Wd.u rfl) rfl rfl ?_
  refine LR.nil ?_
  refine hK2 _ _ ?_
  refine CW.seq (fun K3 hK3 hE3 => ?_)
  refine CW.region ?_
  refine LR.v (Y.assign rfl rfl) (Wd.u rfl) rfl rfl ?_
  refine LR.v (Y.assign rfl rfl) (Wd.u rfl) rfl rfl ?_
  refine LR.nil ?_
  refine hK3 _ _ ?_
  refine CW.seq (fun K4 hK4 hE4 => ?_)
  refine CW.block (fun K5 hK5 hX5 hE5 => ?_)
  refine CW.loop (fun (s_ : (Nat) × (Nat) × (Value) × (Nat) × (List Ch)) => match s_ with | (i, k, vo, ko, out) => [(0, v1), (1, v2), (5, vo), (6, .int .i64 i), (7, .int .i64 k)])
    (fun (s_ : (Nat) × (Nat) × (Value) × (Nat) × (List Ch)) (H : Heap) => match s_ with | (i, k, vo, ko, out) => (i ≤ a.length) ∧ (k ≤ b.length) ∧ (Ow ko 49 H fCh 6 vo out) ∧ (out ++ diffL (a.drop i) (b.drop k) = diffL a b) ∧ (out.length ≤ i + k) ∧ (Nx 0 H0.size ko) ∧ Nw H0 H)
    (fun (s_ : (Nat) × (Nat) × (Value) × (Nat) × (List Ch)) => match s_ with | (i, k, vo, ko, out) => a.length + b.length - i - k) (0, 0, .slice none 0 0, 0, []) ⟨rfl, rfl, rfl, rfl, rfl, trivial⟩ ?_ ?_
  ·
    exact ⟨(by omega), (by omega), Ow.nil fCh_len fCh_one, rfl, (by simp), Nx.refl _ _, Mo.refl _ _⟩
  rintro ⟨i, k, vo, ko, out⟩ HL1 hI1 K6 hN6 hE6
  obtain ⟨hi, hk, ow, he, hol, nxl_ow, hlm1⟩ := hI1
  have df1 := DF.app (DF.z) (bf_ha.mono hm0.size) nxl_ow
  have df2 := DF.app (DF.z) (bf_hb.mono hm0.size) nxl_ow
  have df3 := DF.app (DF.z) (bf_hx.mono hm0.size) nxl_ow
  have df4 := DF.app (DF.z) (bf_hy.mono hm0.size) nxl_ow
  have nx5 : Nx 0 H0.size ko := Nx.tr (Nx.refl 0 _) nxl_ow hm0.size
  replace ha := ha.nw hlm1
  replace hb := hb.nw hlm1
  replace hx := fun x hx0 => (hx x hx0).nw hlm1
  replace hy := fun x hy0 => (hy x hy0).nw hlm1
  replace hm0 := hm0.tr hlm1
  have hz1 := hlm1.size
  have hle_ow := ow.le
  have nx6 := nxl_ow
  refine CW.seq (fun K7 hK7 hE7 => ?_)
  refine CW.seq (fun K8 hK8 hE8 => ?_)
  refine CW.region ?_
  refine LR.v (Y.move rfl rfl) (Wd.u rfl) rfl rfl ?_
  refine LR.v (Y.move rfl rfl) (Wd.u rfl) rfl rfl ?_
  refine LR.v (Y.len ha rfl Try.runUnderlying26 rfl) (Wd.u rfl) rfl rfl ?_
  refine LR.v (Y.lss rfl rfl rfl) (Wd.u rfl) rfl rfl ?_
  refine LR.v (Y.move rfl rfl) (Wd.u rfl) rfl rfl ?_
  refine LR.splitp (d := 12) rfl (fun g12 => ?_) (fun g12 => ?_)
  ·
    first
    | exfalso; omega
    | skip
      refine LR.gs rfl rfl rfl rfl rfl rfl ?_
      refine LR.gs rfl rfl rfl rfl rfl rfl ?_
      refine LR.gs rfl rfl rfl rfl rfl rfl ?_
      refine LR.gs rfl rfl rfl rfl rfl rfl ?_
      refine LR.v (Y.pick_t rfl rfl rfl) (Wd.u rfl) rfl rfl ?_
      refine LR.nil ?_
      refine hK8 _ _ ?_
      refine CW.cond_t rfl ?_
      refine CW.skip ?_
      refine hK7 _ _ ?_
      refine CW.block (fun K9 hK9 hX9 hE9 => ?_)
      refine CW.block (fun K10 hK10 hX10 hE10 => ?_)
      refine CW.seq (fun K11 hK11 hE11 => ?_)
      refine CW.region_draw rfl (by kernel_rfl) ?_
      refine LR.v (Y.move rfl rfl) (Wd.u rfl) rfl rfl ?_
      refine LR.v (Y.move rfl rfl) (Wd.u rfl) rfl rfl ?_
      refine LR.v (Y.len hb rfl Try.runUnderlying26 rfl) (Wd.u rfl) rfl rfl ?_
      refine LR.v (Y.geq rfl rfl rfl) (Wd.u rfl) rfl rfl ?_
      refine LR.v (Y.move rfl rfl) (Wd.u rfl) rfl rfl ?_
      refine LR.splitp (d := 49) rfl (fun g49 => ?_) (fun g49 => ?_)
      ·
        first
        | exfalso; omega
        | skip
          refine LR.gs rfl rfl rfl rfl rfl rfl ?_
          refine LR.gs rfl rfl rfl rfl rfl rfl ?_
          refine LR.gs rfl rfl rfl rfl rfl rfl ?_
          refine LR.gs rfl rfl rfl rfl rfl rfl ?_
          refine LR.gs rfl rfl rfl rfl rfl rfl ?_
          refine LR.gsu rfl rfl rfl rfl rfl ?_
          refine LR.gsu rfl rfl rfl rfl rfl ?_
          refine LR.gsu rfl rfl rfl rfl rfl ?_
          refine LR.gsu rfl rfl rfl rfl rfl ?_
          refine LR.gsu rfl rfl rfl rfl rfl ?_
          refine LR.gsu rfl rfl rfl rfl rfl ?_
          refine LR.gsu rfl rfl rfl rfl rfl ?_
          refine LR.gsu rfl rfl rfl rfl rfl ?_
          refine LR.gsu rfl rfl rfl rfl rfl ?_
          refine LR.gsu rfl rfl rfl rfl rfl ?_
          refine LR.gsu rfl rfl rfl rfl rfl ?_
          refine LR.gs rfl rfl rfl rfl rfl rfl ?_
          refine LR.v (Y.pick_t rfl rfl rfl) (Wd.u rfl) rfl rfl ?_
          refine LR.v (Y.assign rfl rfl) (Wd.u rfl) rfl rfl ?_
          refine LR.nil ?_
          refine hK11 _ _ ?_
          refine CW.cond_t rfl ?_
          refine CW.seq (fun K12 hK12 hE12 => ?_)
          refine CW.region ?_
          refine LR.v (Y.move rfl rfl) (Wd.u rfl) rfl rfl ?_
          refine LR.v (Y.move rfl rfl) (Wd.u rfl) rfl rfl ?_
          refine LR.v (Y.move rfl rfl) (Wd.u rfl) rfl rfl ?_
          have hil0 : i < a.length := by omega
          refine LR.e (g := fun ad => .pointer (some ad)) (Y.indexAddrF ha (i) rfl Try.runUnderlying26 Try.sizeOf35 rfl rfl (by first | rfl | omega) (by first | omega | (simp; omega) | (simp; done))) (Wd.u rfl) rfl rfl (fun ad71 pt71 => ?_)
          have bf_pt71 := bf_ha
          refine LR.v (Y.loadN pt71.pt rfl Try.isAgg35 Try.sizeOf35 (rfl) rfl) (Wd.u rfl) rfl rfl ?_
          refine LR.v (Y.build (v := .agg (fCh ⟨a[i], zFl⟩).toArray) rfl rfl (by intro w; kernel_rfl)) (Wd.u rfl) rfl rfl ?_
          refine LR.z (Z.litw _ ([(⟨a[i], zFl⟩ : Ch)]) rfl inf28 rfl rfl rfl (by decide) (by decide) fCh_len fCh_one (rfl)) (Wd.u rfl) rfl rfl (fun v74 H74 r74 => ?_)
          obtain ⟨nw74, hs74, ob74, hH74⟩ := r74
          have hzs74 : H74.size = HL1.size + 1 := by rw [hH74]; simp
          have df7 := (DF.new (bf_ha.mono hm0.size) : DF _ (HL1.size + 1))
          have df8 := (DF.new (bf_hb.mono hm0.size) : DF _ (HL1.size + 1))
          have df9 := (DF.new (bf_hx.mono hm0.size) : DF _ (HL1.size + 1))
          have df10 := (DF.new (bf_hy.mono hm0.size) : DF _ (HL1.size + 1))
          have dj11 : Dj ko (HL1.size + 1) := Dj.new ow.le
          have df12 := (DF.new (bf_pt71.mono hm0.size) : DF _ (HL1.size + 1))
          have nx13 : Nx 0 H0.size (HL1.size + 1) := Nx.new hm0.size
          have nx14 : Nx 0 H0.size (HL1.size + 1) := Nx.new hlm1.size
          replace ha := ha.nw hs74
          replace hb := hb.nw hs74
          replace hx := fun x hx0 => (hx x hx0).nw hs74
          replace hy := fun x hy0 => (hy x hy0).nw hs74
          replace ow := ow.nw hs74
          replace pt71 := pt71.nw hs74
          replace hm0 := hm0.tr hs74
          replace hlm1 := hlm1.tr hs74
          have hz2 := hs74.size
          refine LR.z (Z.apnd ow nw74.rd rfl inf28 rfl rfl (by simp; omega) (by simp; omega)) (Wd.u rfl) rfl rfl (fun v75 H75 r75 => ?_)
          obtain ⟨k75, ow, hk75, hs75⟩ := r75
          replace hk75 : Nx ko H74.size k75 := hk75
          replace hs75 := hs75.md
          have df15 := DF.app (df1) (bf_ha.mono hm0.size) hk75
          have df16 := DF.app (df2) (bf_hb.mono hm0.size) hk75
          have df17 := DF.app (df3) (bf_hx.mono hm0.size) hk75
          have df18 := DF.app (df4) (bf_hy.mono hm0.size) hk75
          have df19 := DF.app (df1) (bf_pt71.mono hm0.size) hk75
          have dj20 : Dj (HL1.size + 1) k75 := Dj.app (dj11.symm) nw74.le hk75
          have nx21 : Nx 0 H0.size k75 := Nx.tr (nx5) hk75 hm0.size
          have nx22 : Nx 0 H0.size k75 := Nx.tr (nx6) hk75 hlm1.size
          replace ha := ha.upL hs75 (DFL.cons df1 DFL.nil)
          replace hb := hb.upL hs75 (DFL.cons df2 DFL.nil)
          replace hx := fun x hx0 => (hx x hx0).upL hs75 (DFL.cons df3 DFL.nil)
          replace hy := fun x hy0 => (hy x hy0).upL hs75 (DFL.cons df4 DFL.nil)
          replace pt71 := pt71.upL hs75 (DFL.cons df1 DFL.nil)
          replace nw74 := nw74.upL hs75 (DL.cons dj11.symm DL.nil)
          replace hm0 := (Mo.trL (ks := []) (hm0.mdn []) hs75 (MIL.cons (MI.app MI.z (nx5) (Nat.le_refl _)) MIL.nil)).nil
          replace hlm1 := (Mo.trL (ks := []) (hlm1.mdn []) hs75 (MIL.cons (MI.app MI.z (nx6) (Nat.le_refl _)) MIL.nil)).nil
          have hz3 := hs75.size
          have hle_ow := ow.le
          refine LR.v (Y.assign rfl rfl) (Wd.u rfl) rfl rfl ?_
          refine LR.nil ?_
          refine hK12 _ _ ?_
          refine CW.region ?_
          refine LR.v (Y.move rfl rfl) (Wd.u rfl) rfl rfl ?_
          refine LR.v (Y.addi rfl rfl rfl (by omega)) (Wd.u rfl) rfl rfl ?_
          refine LR.v (Y.assign rfl rfl) (Wd.u rfl) rfl rfl ?_
          refine LR.nil ?_
          refine hK10 _ _ ?_
          refine hK9 _ _ ?_
          have hil : i < a.length := by omega
          refine QN.sub (hN6 (i + 1, k, v75, k75, out ++ [⟨a[i], zFl⟩]) _ ?_ ?_) ⟨rfl, rfl, rfl, (iv (by omega)), (iv (by omega)), trivial⟩
          · exact ⟨(by omega), (by omega), ow, by rw [← he, diff_a hil (by first | exact .inl (by omega) | exact .inr ⟨by omega, by assumption⟩)]; simp, (by simp; omega), nx22, hlm1⟩
          · first | omega | (simp only; omega) | (simp; omega)
      ·
        first
        | exfalso; omega
        | skip
          refine LR.v (Y.move rfl rfl) (Wd.g rfl rfl rfl) rfl rfl ?_
          refine LR.v (Y.move rfl rfl) (Wd.g rfl rfl rfl) rfl rfl ?_
          refine LR.v (Y.len ha rfl Try.runUnderlying26 rfl) (Wd.g rfl rfl rfl) rfl rfl ?_
          refine LR.v (Y.lss rfl rfl rfl) (Wd.g rfl rfl rfl) rfl rfl ?_
          refine LR.v (Y.move rfl rfl) (Wd.g rfl rfl rfl) rfl rfl ?_
          refine LR.splitp (d := 54) rfl (fun g54 => ?_) (fun g54 => ?_)
          ·
            first
            | exfalso; omega
            | skip
              refine LR.v (Y.move rfl rfl) (Wd.g rfl rfl rfl) rfl rfl ?_
              refine LR.v (Y.move rfl rfl) (Wd.g rfl rfl rfl) rfl rfl ?_
              refine LR.e (g := fun ad => .pointer (some ad)) (Y.indexAddrF ha (i) rfl Try.runUnderlying26 Try.sizeOf35 rfl rfl (by first | rfl | omega) (by first | omega | (simp; omega) | (simp; done))) (Wd.g rfl rfl rfl) rfl rfl (fun ad57 pt57 => ?_)
              have bf_pt57 := bf_ha
              refine LR.v (Y.fieldAddr pt57.pt rfl Try.runUnderlying35 rfl rfl Try.sizeOf9 (by decide) rfl) (Wd.g rfl rfl rfl) rfl rfl ?_
              refine LR.v (Y.load1 (pt57.pt.drop 0) rfl Try.isAgg9 rfl) (Wd.g rfl rfl rfl) rfl rfl ?_
              refine LR.v (Y.move rfl rfl) (Wd.g rfl rfl rfl) rfl rfl ?_
              refine LR.v (Y.move rfl rfl) (Wd.g rfl rfl rfl) rfl rfl ?_
              refine LR.e (g := fun ad => .pointer (some ad)) (Y.indexAddrF hb (k) rfl Try.runUnderlying26 Try.sizeOf35 rfl rfl (by first | rfl | omega) (by first | omega | (simp; omega) | (simp; done))) (Wd.g rfl rfl rfl) rfl rfl (fun ad62 pt62 => ?_)
              have bf_pt62 := bf_hb
              refine LR.v (Y.fieldAddr pt62.pt rfl Try.runUnderlying35 rfl rfl Try.sizeOf9 (by decide) rfl) (Wd.g rfl rfl rfl) rfl rfl ?_
              refine LR.v (Y.load1 (pt62.pt.drop 0) rfl Try.isAgg9 rfl) (Wd.g rfl rfl rfl) rfl rfl ?_
              refine LR.v (Y.slss rfl rfl rfl) (Wd.g rfl rfl rfl) rfl rfl ?_
              refine LR.v (Y.pick_t rfl rfl rfl) (Wd.g rfl rfl rfl) rfl rfl ?_
              refine LR.v (Y.pick_f rfl rfl rfl) (Wd.u rfl) rfl rfl ?_
              refine LR.v (Y.assign rfl rfl) (Wd.u rfl) rfl rfl ?_
              refine LR.nil ?_
              refine hK11 _ _ ?_
              refine CW.cond rfl (fun c44 => ?_) (fun c44 => ?_)
              ·
                refine CW.seq (fun K13 hK13 hE13 => ?_)
                refine CW.region ?_
                refine LR.v (Y.move rfl rfl) (Wd.u rfl) rfl rfl ?_
                refine LR.v (Y.move rfl rfl) (Wd.u rfl) rfl rfl ?_
                refine LR.v (Y.move rfl rfl) (Wd.u rfl) rfl rfl ?_
                have hil0 : i < a.length := by omega
                refine LR.e (g := fun ad => .pointer (some ad)) (Y.indexAddrF ha (i) rfl Try.runUnderlying26 Try.sizeOf35 rfl rfl (by first | rfl | omega) (by first | omega | (simp; omega) | (simp; done))) (Wd.u rfl) rfl rfl (fun ad71 pt71 => ?_)
                have bf_pt71 := bf_ha
                refine LR.v (Y.loadN pt71.pt rfl Try.isAgg35 Try.sizeOf35 (rfl) rfl) (Wd.u rfl) rfl rfl ?_
                refine LR.v (Y.build (v := .agg (fCh ⟨a[i], zFl⟩).toArray) rfl rfl (by intro w; kernel_rfl)) (Wd.u rfl) rfl rfl ?_
                refine LR.z (Z.litw _ ([(⟨a[i], zFl⟩ : Ch)]) rfl inf28 rfl rfl rfl (by decide) (by decide) fCh_len fCh_one (rfl)) (Wd.u rfl) rfl rfl (fun v74 H74 r74 => ?_)
                obtain ⟨nw74, hs74, ob74, hH74⟩ := r74
                have hzs74 : H74.size = HL1.size + 1 := by rw [hH74]; simp
                have df23 := (DF.new (bf_ha.mono hm0.size) : DF _ (HL1.size + 1))
                have df24 := (DF.new (bf_hb.mono hm0.size) : DF _ (HL1.size + 1))
                have df25 := (DF.new (bf_hx.mono hm0.size) : DF _ (HL1.size + 1))
                have df26 := (DF.new (bf_hy.mono hm0.size) : DF _ (HL1.size + 1))
                have dj27 : Dj ko (HL1.size + 1) := Dj.new ow.le
                have df28 := (DF.new (bf_pt71.mono hm0.size) : DF _ (HL1.size + 1))
                have nx29 : Nx 0 H0.size (HL1.size + 1) := Nx.new hm0.size
                have nx30 : Nx 0 H0.size (HL1.size + 1) := Nx.new hlm1.size
                replace ha := ha.nw hs74
                replace hb := hb.nw hs74
                replace hx := fun x hx0 => (hx x hx0).nw hs74
                replace hy := fun x hy0 => (hy x hy0).nw hs74
                replace ow := ow.nw hs74
                replace pt71 := pt71.nw hs74
                replace hm0 := hm0.tr hs74
                replace hlm1 := hlm1.tr hs74
                have hz4 := hs74.size
                refine LR.z (Z.apnd ow nw74.rd rfl inf28 rfl rfl (by simp; omega) (by simp; omega)) (Wd.u rfl) rfl rfl (fun v75 H75 r75 => ?_)
                obtain ⟨k75, ow, hk75, hs75⟩ := r75
                replace hk75 : Nx ko H74.size k75 := hk75
                replace hs75 := hs75.md
                have df31 := DF.app (df1) (bf_ha.mono hm0.size) hk75
                have df32 := DF.app (df2) (bf_hb.mono hm0.size) hk75
                have df33 := DF.app (df3) (bf_hx.mono hm0.size) hk75
                have df34 := DF.app (df4) (bf_hy.mono hm0.size) hk75
                have df35 := DF.app (df1) (bf_pt71.mono hm0.size) hk75
                have dj36 : Dj (HL1.size + 1) k75 := Dj.app (dj27.symm) nw74.le hk75
                have nx37 : Nx 0 H0.size k75 := Nx.tr (nx5) hk75 hm0.size
                have nx38 : Nx 0 H0.size k75 := Nx.tr (nx6) hk75 hlm1.size
                replace ha := ha.upL hs75 (DFL.cons df1 DFL.nil)
                replace hb := hb.upL hs75 (DFL.cons df2 DFL.nil)
                replace hx := fun x hx0 => (hx x hx0).upL hs75 (DFL.cons df3 DFL.nil)
                replace hy := fun x hy0 => (hy x hy0).upL hs75 (DFL.cons df4 DFL.nil)
                replace pt71 := pt71.upL hs75 (DFL.cons df1 DFL.nil)
                replace nw74 := nw74.upL hs75 (DL.cons dj27.symm DL.nil)
                replace hm0 := (Mo.trL (ks := []) (hm0.mdn []) hs75 (MIL.cons (MI.app MI.z (nx5) (Nat.le_refl _)) MIL.nil)).nil
                replace hlm1 := (Mo.trL (ks := []) (hlm1.mdn []) hs75 (MIL.cons (MI.app MI.z (nx6) (Nat.le_refl _)) MIL.nil)).nil
                have hz5 := hs75.size
                have hle_ow := ow.le
                refine LR.v (Y.assign rfl rfl) (Wd.u rfl) rfl rfl ?_
                refine LR.nil ?_
                refine hK13 _ _ ?_
                refine CW.region ?_
                refine LR.v (Y.move rfl rfl) (Wd.u rfl) rfl rfl ?_
                refine LR.v (Y.addi rfl rfl rfl (by omega)) (Wd.u rfl) rfl rfl ?_
                refine LR.v (Y.assign rfl rfl) (Wd.u rfl) rfl rfl ?_
                refine LR.nil ?_
                refine hK10 _ _ ?_
                refine hK9 _ _ ?_
                have hil : i < a.length := by omega
                refine QN.sub (hN6 (i + 1, k, v75, k75, out ++ [⟨a[i], zFl⟩]) _ ?_ ?_) ⟨rfl, rfl, rfl, (iv (by omega)), (iv (by omega)), trivial⟩
                · exact ⟨(by omega), (by omega), ow, by rw [← he, diff_a hil (by first | exact .inl (by omega) | exact .inr ⟨by omega, by assumption⟩)]; simp, (by simp; omega), nx38, hlm1⟩
                · first | omega | (simp only; omega) | (simp; omega)
              ·
                refine CW.seq (fun K14 hK14 hE14 => ?_)
                refine CW.region_draw rfl (by kernel_rfl) ?_
                refine LR.v (Y.move rfl rfl) (Wd.u rfl) rfl rfl ?_
                refine LR.v (Y.move rfl rfl) (Wd.u rfl) rfl rfl ?_
                refine LR.v (Y.len ha rfl Try.runUnderlying26 rfl) (Wd.u rfl) rfl rfl ?_
                refine LR.v (Y.geq rfl rfl rfl) (Wd.u rfl) rfl rfl ?_
                refine LR.v (Y.move rfl rfl) (Wd.u rfl) rfl rfl ?_
                refine LR.splitp (d := 83) rfl (fun g83 => ?_) (fun g83 => ?_)
                ·
                  first
                  | exfalso; omega
                  | skip
                    refine LR.gs rfl rfl rfl rfl rfl rfl ?_
                    refine LR.gs rfl rfl rfl rfl rfl rfl ?_
                    refine LR.gs rfl rfl rfl rfl rfl rfl ?_
                    refine LR.gs rfl rfl rfl rfl rfl rfl ?_
                    refine LR.gs rfl rfl rfl rfl rfl rfl ?_
                    refine LR.gs rfl rfl rfl rfl rfl rfl ?_
                    refine LR.gs rfl rfl rfl rfl rfl rfl ?_
                    refine LR.gs rfl rfl rfl rfl rfl rfl ?_
                    refine LR.gs rfl rfl rfl rfl rfl rfl ?_
                    refine LR.gs rfl rfl rfl rfl rfl rfl ?_
                    refine LR.gs rfl rfl rfl rfl rfl rfl ?_
                    refine LR.v (Y.pick_t rfl rfl rfl) (Wd.u rfl) rfl rfl ?_
                    refine LR.v (Y.assign rfl rfl) (Wd.u rfl) rfl rfl ?_
                    refine LR.nil ?_
                    refine hK14 _ _ ?_
                    refine CW.cond_t rfl ?_
                    refine CW.seq (fun K15 hK15 hE15 => ?_)
                    refine CW.region ?_
                    refine LR.v (Y.move rfl rfl) (Wd.u rfl) rfl rfl ?_
                    refine LR.v (Y.move rfl rfl) (Wd.u rfl) rfl rfl ?_
                    refine LR.v (Y.move rfl rfl) (Wd.u rfl) rfl rfl ?_
                    have hkl0 : k < b.length := by omega
                    refine LR.e (g := fun ad => .pointer (some ad)) (Y.indexAddrF hb (k) rfl Try.runUnderlying26 Try.sizeOf35 rfl rfl (by first | rfl | omega) (by first | omega | (simp; omega) | (simp; done))) (Wd.u rfl) rfl rfl (fun ad99 pt99 => ?_)
                    have bf_pt99 := bf_hb
                    refine LR.v (Y.loadN pt99.pt rfl Try.isAgg35 Try.sizeOf35 (rfl) rfl) (Wd.u rfl) rfl rfl ?_
                    refine LR.v (Y.build (v := .agg (fCh ⟨zFl, b[k]⟩).toArray) rfl rfl (by intro w; kernel_rfl)) (Wd.u rfl) rfl rfl ?_
                    refine LR.z (Z.litw _ ([(⟨zFl, b[k]⟩ : Ch)]) rfl inf28 rfl rfl rfl (by decide) (by decide) fCh_len fCh_one (rfl)) (Wd.u rfl) rfl rfl (fun v102 H102 r102 => ?_)
                    obtain ⟨nw102, hs102, ob102, hH102⟩ := r102
                    have hzs102 : H102.size = HL1.size + 1 := by rw [hH102]; simp
                    have df39 := (DF.new (bf_ha.mono hm0.size) : DF _ (HL1.size + 1))
                    have df40 := (DF.new (bf_hb.mono hm0.size) : DF _ (HL1.size + 1))
                    have df41 := (DF.new (bf_hx.mono hm0.size) : DF _ (HL1.size + 1))
                    have df42 := (DF.new (bf_hy.mono hm0.size) : DF _ (HL1.size + 1))
                    have dj43 : Dj ko (HL1.size + 1) := Dj.new ow.le
                    have df44 := (DF.new (bf_pt99.mono hm0.size) : DF _ (HL1.size + 1))
                    have nx45 : Nx 0 H0.size (HL1.size + 1) := Nx.new hm0.size
                    have nx46 : Nx 0 H0.size (HL1.size + 1) := Nx.new hlm1.size
                    replace ha := ha.nw hs102
                    replace hb := hb.nw hs102
                    replace hx := fun x hx0 => (hx x hx0).nw hs102
                    replace hy := fun x hy0 => (hy x hy0).nw hs102
                    replace ow := ow.nw hs102
                    replace pt99 := pt99.nw hs102
                    replace hm0 := hm0.tr hs102
                    replace hlm1 := hlm1.tr hs102
                    have hz6 := hs102.size
                    refine LR.z (Z.apnd ow nw102.rd rfl inf28 rfl rfl (by simp; omega) (by simp; omega)) (Wd.u rfl) rfl rfl (fun v103 H103 r103 => ?_)
                    obtain ⟨k103, ow, hk103, hs103⟩ := r103
                    replace hk103 : Nx ko H102.size k103 := hk103
                    replace hs103 := hs103.md
                    have df47 := DF.app (df1) (bf_ha.mono hm0.size) hk103
                    have df48 := DF.app (df2) (bf_hb.mono hm0.size) hk103
                    have df49 := DF.app (df3) (bf_hx.mono hm0.size) hk103
                    have df50 := DF.app (df4) (bf_hy.mono hm0.size) hk103
                    have df51 := DF.app (df2) (bf_pt99.mono hm0.size) hk103
                    have dj52 : Dj (HL1.size + 1) k103 := Dj.app (dj43.symm) nw102.le hk103
                    have nx53 : Nx 0 H0.size k103 := Nx.tr (nx5) hk103 hm0.size
                    have nx54 : Nx 0 H0.size k103 := Nx.tr (nx6) hk103 hlm1.size
                    replace ha := ha.upL hs103 (DFL.cons df1 DFL.nil)
                    replace hb := hb.upL hs103 (DFL.cons df2 DFL.nil)
                    replace hx := fun x hx0 => (hx x hx0).upL hs103 (DFL.cons df3 DFL.nil)
                    replace hy := fun x hy0 => (hy x hy0).upL hs103 (DFL.cons df4 DFL.nil)
                    replace pt99 := pt99.upL hs103 (DFL.cons df2 DFL.nil)
                    replace nw102 := nw102.upL hs103 (DL.cons dj43.symm DL.nil)
                    replace hm0 := (Mo.trL (ks := []) (hm0.mdn []) hs103 (MIL.cons (MI.app MI.z (nx5) (Nat.le_refl _)) MIL.nil)).nil
                    replace hlm1 := (Mo.trL (ks := []) (hlm1.mdn []) hs103 (MIL.cons (MI.app MI.z (nx6) (Nat.le_refl _)) MIL.nil)).nil
                    have hz7 := hs103.size
                    have hle_ow := ow.le
                    refine LR.v (Y.assign rfl rfl) (Wd.u rfl) rfl rfl ?_
                    refine LR.nil ?_
                    refine hK15 _ _ ?_
                    refine CW.region ?_
                    refine LR.v (Y.move rfl rfl) (Wd.u rfl) rfl rfl ?_
                    refine LR.v (Y.addi rfl rfl rfl (by omega)) (Wd.u rfl) rfl rfl ?_
                    refine LR.v (Y.assign rfl rfl) (Wd.u rfl) rfl rfl ?_
                    refine LR.nil ?_
                    refine hK10 _ _ ?_
                    refine hK9 _ _ ?_
                    have hkl : k < b.length := by omega
                    refine QN.sub (hN6 (i, k + 1, v103, k103, out ++ [⟨zFl, b[k]⟩]) _ ?_ ?_) ⟨rfl, rfl, rfl, (iv (by omega)), (iv (by omega)), trivial⟩
                    · exact ⟨(by omega), (by omega), ow, by rw [← he, diff_b hkl (by first | exact .inl (by omega) | exact .inr ⟨by omega, by assumption, by assumption⟩)]; simp, (by simp; omega), nx54, hlm1⟩
                    · first | omega | (simp only; omega) | (simp; omega)
                ·
                  first
                  | exfalso; omega
                  | skip
                    refine LR.v (Y.move rfl rfl) (Wd.g rfl rfl rfl) rfl rfl ?_
                    refine LR.v (Y.move rfl rfl) (Wd.g rfl rfl rfl) rfl rfl ?_
                    refine LR.e (g := fun ad => .pointer (some ad)) (Y.indexAddrF hb (k) rfl Try.runUnderlying26 Try.sizeOf35 rfl rfl (by first | rfl | omega) (by first | omega | (simp; omega) | (simp; done))) (Wd.g rfl rfl rfl) rfl rfl (fun ad86 pt86 => ?_)
                    have bf_pt86 := bf_hb
                    refine LR.v (Y.fieldAddr pt86.pt rfl Try.runUnderlying35 rfl rfl Try.sizeOf9 (by decide) rfl) (Wd.g rfl rfl rfl) rfl rfl ?_
                    refine LR.v (Y.load1 (pt86.pt.drop 0) rfl Try.isAgg9 rfl) (Wd.g rfl rfl rfl) rfl rfl ?_
                    refine LR.v (Y.move rfl rfl) (Wd.g rfl rfl rfl) rfl rfl ?_
                    refine LR.v (Y.move rfl rfl) (Wd.g rfl rfl rfl) rfl rfl ?_
                    refine LR.e (g := fun ad => .pointer (some ad)) (Y.indexAddrF ha (i) rfl Try.runUnderlying26 Try.sizeOf35 rfl rfl (by first | rfl | omega) (by first | omega | (simp; omega) | (simp; done))) (Wd.g rfl rfl rfl) rfl rfl (fun ad91 pt91 => ?_)
                    have bf_pt91 := bf_ha
                    refine LR.v (Y.fieldAddr pt91.pt rfl Try.runUnderlying35 rfl rfl Try.sizeOf9 (by decide) rfl) (Wd.g rfl rfl rfl) rfl rfl ?_
                    refine LR.v (Y.load1 (pt91.pt.drop 0) rfl Try.isAgg9 rfl) (Wd.g rfl rfl rfl) rfl rfl ?_
                    refine LR.v (Y.slss rfl rfl rfl) (Wd.g rfl rfl rfl) rfl rfl ?_
                    refine LR.v (Y.pick_f rfl rfl rfl) (Wd.u rfl) rfl rfl ?_
                    refine LR.v (Y.assign rfl rfl) (Wd.u rfl) rfl rfl ?_
                    refine LR.nil ?_
                    refine hK14 _ _ ?_
                    refine CW.cond rfl (fun c78 => ?_) (fun c78 => ?_)
                    ·
                      refine CW.seq (fun K16 hK16 hE16 => ?_)
                      refine CW.region ?_
                      refine LR.v (Y.move rfl rfl) (Wd.u rfl) rfl rfl ?_
                      refine LR.v (Y.move rfl rfl) (Wd.u rfl) rfl rfl ?_
                      refine LR.v (Y.move rfl rfl) (Wd.u rfl) rfl rfl ?_
                      have hkl0 : k < b.length := by omega
                      refine LR.e (g := fun ad => .pointer (some ad)) (Y.indexAddrF hb (k) rfl Try.runUnderlying26 Try.sizeOf35 rfl rfl (by first | rfl | omega) (by first | omega | (simp; omega) | (simp; done))) (Wd.u rfl) rfl rfl (fun ad99 pt99 => ?_)
                      have bf_pt99 := bf_hb
                      refine LR.v (Y.loadN pt99.pt rfl Try.isAgg35 Try.sizeOf35 (rfl) rfl) (Wd.u rfl) rfl rfl ?_
                      refine LR.v (Y.build (v := .agg (fCh ⟨zFl, b[k]⟩).toArray) rfl rfl (by intro w; kernel_rfl)) (Wd.u rfl) rfl rfl ?_
                      refine LR.z (Z.litw _ ([(⟨zFl, b[k]⟩ : Ch)]) rfl inf28 rfl rfl rfl (by decide) (by decide) fCh_len fCh_one (rfl)) (Wd.u rfl) rfl rfl (fun v102 H102 r102 => ?_)
                      obtain ⟨nw102, hs102, ob102, hH102⟩ := r102
                      have hzs102 : H102.size = HL1.size + 1 := by rw [hH102]; simp
                      have df55 := (DF.new (bf_ha.mono hm0.size) : DF _ (HL1.size + 1))
                      have df56 := (DF.new (bf_hb.mono hm0.size) : DF _ (HL1.size + 1))
                      have df57 := (DF.new (bf_hx.mono hm0.size) : DF _ (HL1.size + 1))
                      have df58 := (DF.new (bf_hy.mono hm0.size) : DF _ (HL1.size + 1))
                      have dj59 : Dj ko (HL1.size + 1) := Dj.new ow.le
                      have df60 := (DF.new (bf_pt99.mono hm0.size) : DF _ (HL1.size + 1))
                      have nx61 : Nx 0 H0.size (HL1.size + 1) := Nx.new hm0.size
                      have nx62 : Nx 0 H0.size (HL1.size + 1) := Nx.new hlm1.size
                      replace ha := ha.nw hs102
                      replace hb := hb.nw hs102
                      replace hx := fun x hx0 => (hx x hx0).nw hs102
                      replace hy := fun x hy0 => (hy x hy0).nw hs102
                      replace ow := ow.nw hs102
                      replace pt99 := pt99.nw hs102
                      replace hm0 := hm0.tr hs102
                      replace hlm1 := hlm1.tr hs102
                      have hz8 := hs102.size
                      refine LR.z (Z.apnd ow nw102.rd rfl inf28 rfl rfl (by simp; omega) (by simp; omega)) (Wd.u rfl) rfl rfl (fun v103 H103 r103 => ?_)
                      obtain ⟨k103, ow, hk103, hs103⟩ := r103
                      replace hk103 : Nx ko H102.size k103 := hk103
                      replace hs103 := hs103.md
                      have df63 := DF.app (df1) (bf_ha.mono hm0.size) hk103
                      have df64 := DF.app (df2) (bf_hb.mono hm0.size) hk103
                      have df65 := DF.app (df3) (bf_hx.mono hm0.size) hk103
                      have df66 := DF.app (df4) (bf_hy.mono hm0.size) hk103
                      have df67 := DF.app (df2) (bf_pt99.mono hm0.size) hk103
                      have dj68 : Dj (HL1.size + 1) k103 := Dj.app (dj59.symm) nw102.le hk103
                      have nx69 : Nx 0 H0.size k103 := Nx.tr (nx5) hk103 hm0.size
                      have nx70 : Nx 0 H0.size k103 := Nx.tr (nx6) hk103 hlm1.size
                      replace ha := ha.upL hs103 (DFL.cons df1 DFL.nil)
                      replace hb := hb.upL hs103 (DFL.cons df2 DFL.nil)
                      replace hx := fun x hx0 => (hx x hx0).upL hs103 (DFL.cons df3 DFL.nil)
                      replace hy := fun x hy0 => (hy x hy0).upL hs103 (DFL.cons df4 DFL.nil)
                      replace pt99 := pt99.upL hs103 (DFL.cons df2 DFL.nil)
                      replace nw102 := nw102.upL hs103 (DL.cons dj59.symm DL.nil)
                      replace hm0 := (Mo.trL (ks := []) (hm0.mdn []) hs103 (MIL.cons (MI.app MI.z (nx5) (Nat.le_refl _)) MIL.nil)).nil
                      replace hlm1 := (Mo.trL (ks := []) (hlm1.mdn []) hs103 (MIL.cons (MI.app MI.z (nx6) (Nat.le_refl _)) MIL.nil)).nil
                      have hz9 := hs103.size
                      have hle_ow := ow.le
                      refine LR.v (Y.assign rfl rfl) (Wd.u rfl) rfl rfl ?_
                      refine LR.nil ?_
                      refine hK16 _ _ ?_
                      refine CW.region ?_
                      refine LR.v (Y.move rfl rfl) (Wd.u rfl) rfl rfl ?_
                      refine LR.v (Y.addi rfl rfl rfl (by omega)) (Wd.u rfl) rfl rfl ?_
                      refine LR.v (Y.assign rfl rfl) (Wd.u rfl) rfl rfl ?_
                      refine LR.nil ?_
                      refine hK10 _ _ ?_
                      refine hK9 _ _ ?_
                      have hkl : k < b.length := by omega
                      refine QN.sub (hN6 (i, k + 1, v103, k103, out ++ [⟨zFl, b[k]⟩]) _ ?_ ?_) ⟨rfl, rfl, rfl, (iv (by omega)), (iv (by omega)), trivial⟩
                      · exact ⟨(by omega), (by omega), ow, by rw [← he, diff_b hkl (by first | exact .inl (by omega) | exact .inr ⟨by omega, by assumption, by assumption⟩)]; simp, (by simp; omega), nx70, hlm1⟩
                      · first | omega | (simp only; omega) | (simp; omega)
                    ·
                      refine CW.seq (fun K17 hK17 hE17 => ?_)
                      refine CW.seq (fun K18 hK18 hE18 => ?_)
                      refine CW.region_tail 8 rfl (by kernel_rfl) (fun T4 hT4 => ?_)
                      refine LR.v (Y.move rfl rfl) (Wd.u rfl) rfl rfl ?_
                      refine LR.v (Y.move rfl rfl) (Wd.u rfl) rfl rfl ?_
                      have hil : i < a.length := by omega
                      have hkl : k < b.length := by omega
                      refine LR.e (g := fun ad => .pointer (some ad)) (Y.indexAddrF ha (i) rfl Try.runUnderlying26 Try.sizeOf35 rfl rfl (by first | rfl | omega) (by first | omega | (simp; omega) | (simp; done))) (Wd.u rfl) rfl rfl (fun ad20 pt20 => ?_)
                      have bf_pt20 := bf_ha
                      refine LR.v (Y.loadN pt20.pt rfl Try.isAgg35 Try.sizeOf35 (rfl) rfl) (Wd.u rfl) rfl rfl ?_
                      refine LR.v (Y.move rfl rfl) (Wd.u rfl) rfl rfl ?_
                      refine LR.v (Y.move rfl rfl) (Wd.u rfl) rfl rfl ?_
                      refine LR.e (g := fun ad => .pointer (some ad)) (Y.indexAddrF hb (k) rfl Try.runUnderlying26 Try.sizeOf35 rfl rfl (by first | rfl | omega) (by first | omega | (simp; omega) | (simp; done))) (Wd.u rfl) rfl rfl (fun ad24 pt24 => ?_)
                      have bf_pt24 := bf_hb
                      refine LR.v (Y.loadN pt24.pt rfl Try.isAgg35 Try.sizeOf35 (rfl) rfl) (Wd.u rfl) rfl rfl ?_
                      refine LR.nil (hT4 _ ?_)
                      -- call selvage/selvageref15.Same
                      refine LR.call rfl Try.call28 rfl (Wd.u rfl) rfl rfl (samef_ct a[i] b[k] w0 _ (hx a[i] (List.getElem_mem hil)).d.any (hy b[k] (List.getElem_mem hkl)).d.any) (fun v26 H26 r26 => ?_)
                      obtain ⟨rfl, hs26⟩ := r26
                      replace ha := ha.nw hs26
                      replace hb := hb.nw hs26
                      replace hx := fun x hx0 => (hx x hx0).nw hs26
                      replace hy := fun x hy0 => (hy x hy0).nw hs26
                      replace ow := ow.nw hs26
                      replace pt20 := pt20.nw hs26
                      replace pt24 := pt24.nw hs26
                      replace hm0 := hm0.tr hs26
                      replace hlm1 := hlm1.tr hs26
                      have hz10 := hs26.size
                      refine LR.v (Y.not rfl rfl) (Wd.u rfl) rfl rfl ?_
                      refine LR.nil ?_
                      refine hK18 _ _ ?_
                      refine CW.cond rfl (fun c27 => ?_) (fun c27 => ?_)
                      ·
                        have hsm : ¬ sameF a[i] b[k] = true := by simpa using c27
                        refine CW.region_any (fun Hq => Mo (Ms [ko]) H26 Hq) [] rfl ?_
                        have hq5 : Mo (Ms [ko]) H26 H26 := Mo.refl _ _
                        have nx71 := Nx.refl ko H26.size
                        refine LH.take 0 (by kernel_rfl) rfl (by kernel_rfl) (by kernel_rfl) (by kernel_rfl) (fun Hq hq => Y.move rfl rfl) (Wd.u rfl) rfl rfl hq5 ?_
                        refine LH.take 1 (by kernel_rfl) rfl (by kernel_rfl) (by kernel_rfl) (by kernel_rfl) (fun Hq hq => Y.move rfl rfl) (Wd.u rfl) rfl rfl hq5 ?_
                        refine LH.take 2 (by kernel_rfl) rfl (by kernel_rfl) (by kernel_rfl) (by kernel_rfl) (fun Hq hq => Y.move rfl rfl) (Wd.u rfl) rfl rfl hq5 ?_
                        refine LH.e (g := fun ad => .pointer (some ad)) 3 (by kernel_rfl) rfl (by kernel_rfl) (by kernel_rfl) (by kernel_rfl) (Y.indexAddrF ha (i) rfl Try.runUnderlying26 Try.sizeOf35 rfl rfl (by first | rfl | omega) (by first | omega | (simp; omega) | (simp; done))) (Wd.u rfl) rfl rfl hq5 (fun ad31 pt31 => ?_)
                        have bf_pt31 := bf_ha
                        refine LH.take 4 (by kernel_rfl) rfl (by kernel_rfl) (by kernel_rfl) (by kernel_rfl) (fun Hq hq => Y.loadN (pt31.upL hq (DFL.cons df1 DFL.nil)).pt rfl Try.isAgg35 Try.sizeOf35 (rfl) rfl) (Wd.u rfl) rfl rfl hq5 ?_
                        refine LH.take 5 (by kernel_rfl) rfl (by kernel_rfl) (by kernel_rfl) (by kernel_rfl) (fun Hq hq => Y.move rfl rfl) (Wd.u rfl) rfl rfl hq5 ?_
                        refine LH.take 6 (by kernel_rfl) rfl (by kernel_rfl) (by kernel_rfl) (by kernel_rfl) (fun Hq hq => Y.move rfl rfl) (Wd.u rfl) rfl rfl hq5 ?_
                        refine LH.e (g := fun ad => .pointer (some ad)) 7 (by kernel_rfl) rfl (by kernel_rfl) (by kernel_rfl) (by kernel_rfl) (Y.indexAddrF hb (k) rfl Try.runUnderlying26 Try.sizeOf35 rfl rfl (by first | rfl | omega) (by first | omega | (simp; omega) | (simp; done))) (Wd.u rfl) rfl rfl hq5 (fun ad35 pt35 => ?_)
                        have bf_pt35 := bf_hb
                        refine LH.take 8 (by kernel_rfl) rfl (by kernel_rfl) (by kernel_rfl) (by kernel_rfl) (fun Hq hq => Y.loadN (pt35.upL hq (DFL.cons df2 DFL.nil)).pt rfl Try.isAgg35 Try.sizeOf35 (rfl) rfl) (Wd.u rfl) rfl rfl hq5 ?_
                        refine LH.take 9 (by kernel_rfl) rfl (by kernel_rfl) (by kernel_rfl) (by kernel_rfl) (fun Hq hq => Y.build (v := .agg (fCh ⟨a[i], b[k]⟩).toArray) rfl rfl (by intro w; kernel_rfl)) (Wd.u rfl) rfl rfl hq5 ?_
                        refine LH.one (i := 10) (by kernel_rfl) ?_
                        refine LO.z rfl (Z.litw _ ([(⟨a[i], b[k]⟩ : Ch)]) rfl inf28 rfl rfl rfl (by decide) (by decide) fCh_len fCh_one (rfl)) (Wd.u rfl) rfl rfl (fun v38 H38 r38 => ?_)
                        obtain ⟨nw38, hs38, ob38, hH38⟩ := r38
                        have hzs38 : H38.size = H26.size + 1 := by rw [hH38]; simp
                        have df72 := (DF.new (bf_ha.mono hm0.size) : DF _ (H26.size + 1))
                        have df73 := (DF.new (bf_hb.mono hm0.size) : DF _ (H26.size + 1))
                        have df74 := (DF.new (bf_hx.mono hm0.size) : DF _ (H26.size + 1))
                        have df75 := (DF.new (bf_hy.mono hm0.size) : DF _ (H26.size + 1))
                        have dj76 : Dj ko (H26.size + 1) := Dj.new ow.le
                        have df77 := (DF.new (bf_pt31.mono hm0.size) : DF _ (H26.size + 1))
                        have df78 := (DF.new (bf_pt35.mono hm0.size) : DF _ (H26.size + 1))
                        have nx79 : Nx 0 H0.size (H26.size + 1) := Nx.new hm0.size
                        have nx80 : Nx 0 H0.size (H26.size + 1) := Nx.new hlm1.size
                        have nx81 : Nx 0 H26.size (H26.size + 1) := Nx.new hq5.size
                        replace ha := ha.nw hs38
                        replace hb := hb.nw hs38
                        replace hx := fun x hx0 => (hx x hx0).nw hs38
                        replace hy := fun x hy0 => (hy x hy0).nw hs38
                        replace ow := ow.nw hs38
                        replace pt31 := pt31.nw hs38
                        replace pt35 := pt35.nw hs38
                        replace hm0 := hm0.tr hs38
                        replace hlm1 := hlm1.tr hs38
                        replace hq5 := hq5.trN hs38
                        have hz11 := hs38.size
                        refine ⟨.inr hq5, LH.narrow (SH2 := fun Hq => Mo (Ms [ko, (H26.size + 1)]) H38 Hq) (fun Hq hq => hq5.trL hq (MIL.cons (MI.app (MI.root (by simp)) (nx71) (Nat.le_refl _)) (MIL.cons (MI.app MI.z (nx81) (Nat.le_refl _)) MIL.nil))) ?_⟩
                        have hq5 : Mo (Ms [ko, (H26.size + 1)]) H38 H38 := Mo.refl _ _
                        have nx82 := Nx.refl ko H38.size
                        have nx83 := Nx.refl (H26.size + 1) H38.size
                        refine LH.one (i := 11) (by kernel_rfl) ?_
                        refine LO.z rfl (Z.apnd ow nw38.rd rfl inf28 rfl rfl (by simp; omega) (by simp; omega)) (Wd.u rfl) rfl rfl (fun v39 H39 r39 => ?_)
                        obtain ⟨k39, ow, hk39, hs39⟩ := r39
                        replace hk39 : Nx ko H38.size k39 := hk39
                        replace hs39 := hs39.md
                        have df84 := DF.app (df1) (bf_ha.mono hm0.size) hk39
                        have df85 := DF.app (df2) (bf_hb.mono hm0.size) hk39
                        have df86 := DF.app (df3) (bf_hx.mono hm0.size) hk39
                        have df87 := DF.app (df4) (bf_hy.mono hm0.size) hk39
                        have df88 := DF.app (df1) (bf_pt31.mono hm0.size) hk39
                        have df89 := DF.app (df2) (bf_pt35.mono hm0.size) hk39
                        have dj90 : Dj (H26.size + 1) k39 := Dj.app (dj76.symm) nw38.le hk39
                        have nx91 : Nx 0 H0.size k39 := Nx.tr (nx5) hk39 hm0.size
                        have nx92 : Nx 0 H0.size k39 := Nx.tr (nx6) hk39 hlm1.size
                        have nx93 : Nx ko H38.size k39 := Nx.tr (nx82) hk39 hq5.size
                        replace ha := ha.upL hs39 (DFL.cons df1 DFL.nil)
                        replace hb := hb.upL hs39 (DFL.cons df2 DFL.nil)
                        replace hx := fun x hx0 => (hx x hx0).upL hs39 (DFL.cons df3 DFL.nil)
                        replace hy := fun x hy0 => (hy x hy0).upL hs39 (DFL.cons df4 DFL.nil)
                        replace pt31 := pt31.upL hs39 (DFL.cons df1 DFL.nil)
                        replace pt35 := pt35.upL hs39 (DFL.cons df2 DFL.nil)
                        replace nw38 := nw38.upL hs39 (DL.cons dj76.symm DL.nil)
                        replace hm0 := (Mo.trL (ks := []) (hm0.mdn []) hs39 (MIL.cons (MI.app MI.z (nx5) (Nat.le_refl _)) MIL.nil)).nil
                        replace hlm1 := (Mo.trL (ks := []) (hlm1.mdn []) hs39 (MIL.cons (MI.app MI.z (nx6) (Nat.le_refl _)) MIL.nil)).nil
                        replace hq5 := hq5.trL hs39 (MIL.cons (MI.app (MI.root (by simp)) (nx82) (Nat.le_refl _)) MIL.nil)
                        have hz12 := hs39.size
                        have hle_ow := ow.le
                        refine ⟨.inr hq5, LH.narrow (SH2 := fun Hq => Mo (Ms [k39, (H26.size + 1)]) H39 Hq) (fun Hq hq => hq5.trL hq (MIL.cons (MI.app (MI.root (by simp)) (nx93) (Nat.le_refl _)) (MIL.cons (MI.app (MI.root (by simp)) (nx83) (Nat.le_refl _)) MIL.nil))) ?_⟩
                        have hq5 : Mo (Ms [k39, (H26.size + 1)]) H39 H39 := Mo.refl _ _
                        have nx94 := Nx.refl k39 H39.size
                        have nx95 := Nx.refl (H26.size + 1) H39.size
                        refine LH.take 12 (by kernel_rfl) rfl (by kernel_rfl) (by kernel_rfl) (by kernel_rfl) (fun Hq hq => Y.assign rfl rfl) (Wd.u rfl) rfl rfl hq5 ?_
                        refine LH.done (by kernel_rfl) ?_
                        refine hK17 _ _ ?_
                        refine CW.seq (fun K19 hK19 hE19 => ?_)
                        refine CW.region ?_
                        refine LR.v (Y.move rfl rfl) (Wd.u rfl) rfl rfl ?_
                        refine LR.v (Y.addi rfl rfl rfl (by omega)) (Wd.u rfl) rfl rfl ?_
                        refine LR.v (Y.assign rfl rfl) (Wd.u rfl) rfl rfl ?_
                        refine LR.nil ?_
                        refine hK19 _ _ ?_
                        refine CW.region ?_
                        refine LR.v (Y.move rfl rfl) (Wd.u rfl) rfl rfl ?_
                        refine LR.v (Y.addi rfl rfl rfl (by omega)) (Wd.u rfl) rfl rfl ?_
                        refine LR.v (Y.assign rfl rfl) (Wd.u rfl) rfl rfl ?_
                        refine LR.nil ?_
                        refine hK10 _ _ ?_
                        refine hK9 _ _ ?_
                        refine QN.sub (hN6 (i + 1, k + 1, v39, k39, out ++ [⟨a[i], b[k]⟩]) _ ?_ ?_) ⟨rfl, rfl, rfl, (iv (by omega)), (iv (by omega)), trivial⟩
                        · exact ⟨(by omega), (by omega), ow, by rw [← he, diff_c hil hkl (by assumption) (by assumption), if_neg hsm]; simp, (by simp; omega), nx92, hlm1⟩
                        · first | omega | (simp only; omega) | (simp; omega)
                      ·
                        have hsm : sameF a[i] b[k] = true := by simpa using c27
                        refine CW.skip ?_
                        refine hK17 _ _ ?_
                        refine CW.seq (fun K20 hK20 hE20 => ?_)
                        refine CW.region ?_
                        refine LR.v (Y.move rfl rfl) (Wd.u rfl) rfl rfl ?_
                        refine LR.v (Y.addi rfl rfl rfl (by omega)) (Wd.u rfl) rfl rfl ?_
                        refine LR.v (Y.assign rfl rfl) (Wd.u rfl) rfl rfl ?_
                        refine LR.nil ?_
                        refine hK20 _ _ ?_
                        refine CW.region ?_
                        refine LR.v (Y.move rfl rfl) (Wd.u rfl) rfl rfl ?_
                        refine LR.v (Y.addi rfl rfl rfl (by omega)) (Wd.u rfl) rfl rfl ?_
                        refine LR.v (Y.assign rfl rfl) (Wd.u rfl) rfl rfl ?_
                        refine LR.nil ?_
                        refine hK10 _ _ ?_
                        refine hK9 _ _ ?_
                        refine QN.sub (hN6 (i + 1, k + 1, vo, ko, out) _ ?_ ?_) ⟨rfl, rfl, rfl, (iv (by omega)), (iv (by omega)), trivial⟩
                        · exact ⟨(by omega), (by omega), ow, by rw [← he, diff_c hil hkl (by assumption) (by assumption), if_pos hsm], (by omega), nx6, hlm1⟩
                        · first | omega | (simp only; omega) | (simp; omega)
          ·
            first
            | exfalso; omega
            | skip
              refine LR.gs rfl rfl rfl rfl rfl rfl ?_
              refine LR.gs rfl rfl rfl rfl rfl rfl ?_
              refine LR.gs rfl rfl rfl rfl rfl rfl ?_
              refine LR.gs rfl rfl rfl rfl rfl rfl ?_
              refine LR.gs rfl rfl rfl rfl rfl rfl ?_
              refine LR.gs rfl rfl rfl rfl rfl rfl ?_
              refine LR.gs rfl rfl rfl rfl rfl rfl ?_
              refine LR.gs rfl rfl rfl rfl rfl rfl ?_
              refine LR.gs rfl rfl rfl rfl rfl rfl ?_
              refine LR.gs rfl rfl rfl rfl rfl rfl ?_
              refine LR.gs rfl rfl rfl rfl rfl rfl ?_
              refine LR.v (Y.pick_f rfl rfl rfl) (Wd.g rfl rfl rfl) rfl rfl ?_
              refine LR.v (Y.pick_f rfl rfl rfl) (Wd.u rfl) rfl rfl ?_
              refine LR.v (Y.assign rfl rfl) (Wd.u rfl) rfl rfl ?_
              refine LR.nil ?_
              refine hK11 _ _ ?_
              refine CW.cond_f rfl ?_
              refine CW.seq (fun K21 hK21 hE21 => ?_)
              refine CW.region_draw rfl (by kernel_rfl) ?_
              refine LR.v (Y.move rfl rfl) (Wd.u rfl) rfl rfl ?_
              refine LR.v (Y.move rfl rfl) (Wd.u rfl) rfl rfl ?_
              refine LR.v (Y.len ha rfl Try.runUnderlying26 rfl) (Wd.u rfl) rfl rfl ?_
              refine LR.v (Y.geq rfl rfl rfl) (Wd.u rfl) rfl rfl ?_
              refine LR.v (Y.move rfl rfl) (Wd.u rfl) rfl rfl ?_
              refine LR.splitp (d := 83) rfl (fun g83 => ?_) (fun g83 => ?_)
              ·
                first
                | exfalso; omega
                | skip
                  refine LR.gs rfl rfl rfl rfl rfl rfl ?_
                  refine LR.gs rfl rfl rfl rfl rfl rfl ?_
                  refine LR.gs rfl rfl rfl rfl rfl rfl ?_
                  refine LR.gs rfl rfl rfl rfl rfl rfl ?_
                  refine LR.gs rfl rfl rfl rfl rfl rfl ?_
                  refine LR.gs rfl rfl rfl rfl rfl rfl ?_
                  refine LR.gs rfl rfl rfl rfl rfl rfl ?_
                  refine LR.gs rfl rfl rfl rfl rfl rfl ?_
                  refine LR.gs rfl rfl rfl rfl rfl rfl ?_
                  refine LR.gs rfl rfl rfl rfl rfl rfl ?_
                  refine LR.gs rfl rfl rfl rfl rfl rfl ?_
                  refine LR.v (Y.pick_t rfl rfl rfl) (Wd.u rfl) rfl rfl ?_
                  refine LR.v (Y.assign rfl rfl) (Wd.u rfl) rfl rfl ?_
                  refine LR.nil ?_
                  refine hK21 _ _ ?_
                  refine CW.cond_t rfl ?_
                  refine CW.seq (fun K22 hK22 hE22 => ?_)
                  refine CW.region ?_
                  refine LR.v (Y.move rfl rfl) (Wd.u rfl) rfl rfl ?_
                  refine LR.v (Y.move rfl rfl) (Wd.u rfl) rfl rfl ?_
                  refine LR.v (Y.move rfl rfl) (Wd.u rfl) rfl rfl ?_
                  have hkl0 : k < b.length := by omega
                  refine LR.e (g := fun ad => .pointer (some ad)) (Y.indexAddrF hb (k) rfl Try.runUnderlying26 Try.sizeOf35 rfl rfl (by first | rfl | omega) (by first | omega | (simp; omega) | (simp; done))) (Wd.u rfl) rfl rfl (fun ad99 pt99 => ?_)
                  have bf_pt99 := bf_hb
                  refine LR.v (Y.loadN pt99.pt rfl Try.isAgg35 Try.sizeOf35 (rfl) rfl) (Wd.u rfl) rfl rfl ?_
                  refine LR.v (Y.build (v := .agg (fCh ⟨zFl, b[k]⟩).toArray) rfl rfl (by intro w; kernel_rfl)) (Wd.u rfl) rfl rfl ?_
                  refine LR.z (Z.litw _ ([(⟨zFl, b[k]⟩ : Ch)]) rfl inf28 rfl rfl rfl (by decide) (by decide) fCh_len fCh_one (rfl)) (Wd.u rfl) rfl rfl (fun v102 H102 r102 => ?_)
                  obtain ⟨nw102, hs102, ob102, hH102⟩ := r102
                  have hzs102 : H102.size = HL1.size + 1 := by rw [hH102]; simp
                  have df96 := (DF.new (bf_ha.mono hm0.size) : DF _ (HL1.size + 1))
                  have df97 := (DF.new (bf_hb.mono hm0.size) : DF _ (HL1.size + 1))
                  have df98 := (DF.new (bf_hx.mono hm0.size) : DF _ (HL1.size + 1))
                  have df99 := (DF.new (bf_hy.mono hm0.size) : DF _ (HL1.size + 1))
                  have dj100 : Dj ko (HL1.size + 1) := Dj.new ow.le
                  have df101 := (DF.new (bf_pt99.mono hm0.size) : DF _ (HL1.size + 1))
                  have nx102 : Nx 0 H0.size (HL1.size + 1) := Nx.new hm0.size
                  have nx103 : Nx 0 H0.size (HL1.size + 1) := Nx.new hlm1.size
                  replace ha := ha.nw hs102
                  replace hb := hb.nw hs102
                  replace hx := fun x hx0 => (hx x hx0).nw hs102
                  replace hy := fun x hy0 => (hy x hy0).nw hs102
                  replace ow := ow.nw hs102
                  replace pt99 := pt99.nw hs102
                  replace hm0 := hm0.tr hs102
                  replace hlm1 := hlm1.tr hs102
                  have hz13 := hs102.size
                  refine LR.z (Z.apnd ow nw102.rd rfl inf28 rfl rfl (by simp; omega) (by simp; omega)) (Wd.u rfl) rfl rfl (fun v103 H103 r103 => ?_)
                  obtain ⟨k103, ow, hk103, hs103⟩ := r103
                  replace hk103 : Nx ko H102.size k103 := hk103
                  replace hs103 := hs103.md
                  have df104 := DF.app (df1) (bf_ha.mono hm0.size) hk103
                  have df105 := DF.app (df2) (bf_hb.mono hm0.size) hk103
                  have df106 := DF.app (df3) (bf_hx.mono hm0.size) hk103
                  have df107 := DF.app (df4) (bf_hy.mono hm0.size) hk103
                  have df108 := DF.app (df2) (bf_pt99.mono hm0.size) hk103
                  have dj109 : Dj (HL1.size + 1) k103 := Dj.app (dj100.symm) nw102.le hk103
                  have nx110 : Nx 0 H0.size k103 := Nx.tr (nx5) hk103 hm0.size
                  have nx111 : Nx 0 H0.size k103 := Nx.tr (nx6) hk103 hlm1.size
                  replace ha := ha.upL hs103 (DFL.cons df1 DFL.nil)
                  replace hb := hb.upL hs103 (DFL.cons df2 DFL.nil)
                  replace hx := fun x hx0 => (hx x hx0).upL hs103 (DFL.cons df3 DFL.nil)
                  replace hy := fun x hy0 => (hy x hy0).upL hs103 (DFL.cons df4 DFL.nil)
                  replace pt99 := pt99.upL hs103 (DFL.cons df2 DFL.nil)
                  replace nw102 := nw102.upL hs103 (DL.cons dj100.symm DL.nil)
                  replace hm0 := (Mo.trL (ks := []) (hm0.mdn []) hs103 (MIL.cons (MI.app MI.z (nx5) (Nat.le_refl _)) MIL.nil)).nil
                  replace hlm1 := (Mo.trL (ks := []) (hlm1.mdn []) hs103 (MIL.cons (MI.app MI.z (nx6) (Nat.le_refl _)) MIL.nil)).nil
                  have hz14 := hs103.size
                  have hle_ow := ow.le
                  refine LR.v (Y.assign rfl rfl) (Wd.u rfl) rfl rfl ?_
                  refine LR.nil ?_
                  refine hK22 _ _ ?_
                  refine CW.region ?_
                  refine LR.v (Y.move rfl rfl) (Wd.u rfl) rfl rfl ?_
                  refine LR.v (Y.addi rfl rfl rfl (by omega)) (Wd.u rfl) rfl rfl ?_
                  refine LR.v (Y.assign rfl rfl) (Wd.u rfl) rfl rfl ?_
                  refine LR.nil ?_
                  refine hK10 _ _ ?_
                  refine hK9 _ _ ?_
                  have hkl : k < b.length := by omega
                  refine QN.sub (hN6 (i, k + 1, v103, k103, out ++ [⟨zFl, b[k]⟩]) _ ?_ ?_) ⟨rfl, rfl, rfl, (iv (by omega)), (iv (by omega)), trivial⟩
                  · exact ⟨(by omega), (by omega), ow, by rw [← he, diff_b hkl (by first | exact .inl (by omega) | exact .inr ⟨by omega, by assumption, by assumption⟩)]; simp, (by simp; omega), nx111, hlm1⟩
                  · first | omega | (simp only; omega) | (simp; omega)
              ·
                first
                | exfalso; omega
                | skip
                  refine LR.v (Y.move rfl rfl) (Wd.g rfl rfl rfl) rfl rfl ?_
                  refine LR.v (Y.move rfl rfl) (Wd.g rfl rfl rfl) rfl rfl ?_
                  refine LR.e (g := fun ad => .pointer (some ad)) (Y.indexAddrF hb (k) rfl Try.runUnderlying26 Try.sizeOf35 rfl rfl (by first | rfl | omega) (by first | omega | (simp; omega) | (simp; done))) (Wd.g rfl rfl rfl) rfl rfl (fun ad86 pt86 => ?_)
                  have bf_pt86 := bf_hb
                  refine LR.v (Y.fieldAddr pt86.pt rfl Try.runUnderlying35 rfl rfl Try.sizeOf9 (by decide) rfl) (Wd.g rfl rfl rfl) rfl rfl ?_
                  refine LR.v (Y.load1 (pt86.pt.drop 0) rfl Try.isAgg9 rfl) (Wd.g rfl rfl rfl) rfl rfl ?_
                  refine LR.v (Y.move rfl rfl) (Wd.g rfl rfl rfl) rfl rfl ?_
                  refine LR.v (Y.move rfl rfl) (Wd.g rfl rfl rfl) rfl rfl ?_
                  refine LR.e (g := fun ad => .pointer (some ad)) (Y.indexAddrF ha (i) rfl Try.runUnderlying26 Try.sizeOf35 rfl rfl (by first | rfl | omega) (by first | omega | (simp; omega) | (simp; done))) (Wd.g rfl rfl rfl) rfl rfl (fun ad91 pt91 => ?_)
                  have bf_pt91 := bf_ha
                  refine LR.v (Y.fieldAddr pt91.pt rfl Try.runUnderlying35 rfl rfl Try.sizeOf9 (by decide) rfl) (Wd.g rfl rfl rfl) rfl rfl ?_
                  refine LR.v (Y.load1 (pt91.pt.drop 0) rfl Try.isAgg9 rfl) (Wd.g rfl rfl rfl) rfl rfl ?_
                  refine LR.v (Y.slss rfl rfl rfl) (Wd.g rfl rfl rfl) rfl rfl ?_
                  refine LR.v (Y.pick_f rfl rfl rfl) (Wd.u rfl) rfl rfl ?_
                  refine LR.v (Y.assign rfl rfl) (Wd.u rfl) rfl rfl ?_
                  refine LR.nil ?_
                  refine hK21 _ _ ?_
                  refine CW.cond rfl (fun c78 => ?_) (fun c78 => ?_)
                  ·
                    refine CW.seq (fun K23 hK23 hE23 => ?_)
                    refine CW.region ?_
                    refine LR.v (Y.move rfl rfl) (Wd.u rfl) rfl rfl ?_
                    refine LR.v (Y.move rfl rfl) (Wd.u rfl) rfl rfl ?_
                    refine LR.v (Y.move rfl rfl) (Wd.u rfl) rfl rfl ?_
                    have hkl0 : k < b.length := by omega
                    refine LR.e (g := fun ad => .pointer (some ad)) (Y.indexAddrF hb (k) rfl Try.runUnderlying26 Try.sizeOf35 rfl rfl (by first | rfl | omega) (by first | omega | (simp; omega) | (simp; done))) (Wd.u rfl) rfl rfl (fun ad99 pt99 => ?_)
                    have bf_pt99 := bf_hb
                    refine LR.v (Y.loadN pt99.pt rfl Try.isAgg35 Try.sizeOf35 (rfl) rfl) (Wd.u rfl) rfl rfl ?_
                    refine LR.v (Y.build (v := .agg (fCh ⟨zFl, b[k]⟩).toArray) rfl rfl (by intro w; kernel_rfl)) (Wd.u rfl) rfl rfl ?_
                    refine LR.z (Z.litw _ ([(⟨zFl, b[k]⟩ : Ch)]) rfl inf28 rfl rfl rfl (by decide) (by decide) fCh_len fCh_one (rfl)) (Wd.u rfl) rfl rfl (fun v102 H102 r102 => ?_)
                    obtain ⟨nw102, hs102, ob102, hH102⟩ := r102
                    have hzs102 : H102.size = HL1.size + 1 := by rw [hH102]; simp
                    have df112 := (DF.new (bf_ha.mono hm0.size) : DF _ (HL1.size + 1))
                    have df113 := (DF.new (bf_hb.mono hm0.size) : DF _ (HL1.size + 1))
                    have df114 := (DF.new (bf_hx.mono hm0.size) : DF _ (HL1.size + 1))
                    have df115 := (DF.new (bf_hy.mono hm0.size) : DF _ (HL1.size + 1))
                    have dj116 : Dj ko (HL1.size + 1) := Dj.new ow.le
                    have df117 := (DF.new (bf_pt99.mono hm0.size) : DF _ (HL1.size + 1))
                    have nx118 : Nx 0 H0.size (HL1.size + 1) := Nx.new hm0.size
                    have nx119 : Nx 0 H0.size (HL1.size + 1) := Nx.new hlm1.size
                    replace ha := ha.nw hs102
                    replace hb := hb.nw hs102
                    replace hx := fun x hx0 => (hx x hx0).nw hs102
                    replace hy := fun x hy0 => (hy x hy0).nw hs102
                    replace ow := ow.nw hs102
                    replace pt99 := pt99.nw hs102
                    replace hm0 := hm0.tr hs102
                    replace hlm1 := hlm1.tr hs102
                    have hz15 := hs102.size
                    refine LR.z (Z.apnd ow nw102.rd rfl inf28 rfl rfl (by simp; omega) (by simp; omega)) (Wd.u rfl) rfl rfl (fun v103 H103 r103 => ?_)
                    obtain ⟨k103, ow, hk103, hs103⟩ := r103
                    replace hk103 : Nx ko H102.size k103 := hk103
                    replace hs103 := hs103.md
                    have df120 := DF.app (df1) (bf_ha.mono hm0.size) hk103
                    have df121 := DF.app (df2) (bf_hb.mono hm0.size) hk103
                    have df122 := DF.app (df3) (bf_hx.mono hm0.size) hk103
                    have df123 := DF.app (df4) (bf_hy.mono hm0.size) hk103
                    have df124 := DF.app (df2) (bf_pt99.mono hm0.size) hk103
                    have dj125 : Dj (HL1.size + 1) k103 := Dj.app (dj116.symm) nw102.le hk103
                    have nx126 : Nx 0 H0.size k103 := Nx.tr (nx5) hk103 hm0.size
                    have nx127 : Nx 0 H0.size k103 := Nx.tr (nx6) hk103 hlm1.size
                    replace ha := ha.upL hs103 (DFL.cons df1 DFL.nil)
                    replace hb := hb.upL hs103 (DFL.cons df2 DFL.nil)
                    replace hx := fun x hx0 => (hx x hx0).upL hs103 (DFL.cons df3 DFL.nil)
                    replace hy := fun x hy0 => (hy x hy0).upL hs103 (DFL.cons df4 DFL.nil)
                    replace pt99 := pt99.upL hs103 (DFL.cons df2 DFL.nil)
                    replace nw102 := nw102.upL hs103 (DL.cons dj116.symm DL.nil)
                    replace hm0 := (Mo.trL (ks := []) (hm0.mdn []) hs103 (MIL.cons (MI.app MI.z (nx5) (Nat.le_refl _)) MIL.nil)).nil
                    replace hlm1 := (Mo.trL (ks := []) (hlm1.mdn []) hs103 (MIL.cons (MI.app MI.z (nx6) (Nat.le_refl _)) MIL.nil)).nil
                    have hz16 := hs103.size
                    have hle_ow := ow.le
                    refine LR.v (Y.assign rfl rfl) (Wd.u rfl) rfl rfl ?_
                    refine LR.nil ?_
                    refine hK23 _ _ ?_
                    refine CW.region ?_
                    refine LR.v (Y.move rfl rfl) (Wd.u rfl) rfl rfl ?_
                    refine LR.v (Y.addi rfl rfl rfl (by omega)) (Wd.u rfl) rfl rfl ?_
                    refine LR.v (Y.assign rfl rfl) (Wd.u rfl) rfl rfl ?_
                    refine LR.nil ?_
                    refine hK10 _ _ ?_
                    refine hK9 _ _ ?_
                    have hkl : k < b.length := by omega
                    refine QN.sub (hN6 (i, k + 1, v103, k103, out ++ [⟨zFl, b[k]⟩]) _ ?_ ?_) ⟨rfl, rfl, rfl, (iv (by omega)), (iv (by omega)), trivial⟩
                    · exact ⟨(by omega), (by omega), ow, by rw [← he, diff_b hkl (by first | exact .inl (by omega) | exact .inr ⟨by omega, by assumption, by assumption⟩)]; simp, (by simp; omega), nx127, hlm1⟩
                    · first | omega | (simp only; omega) | (simp; omega)
                  ·
                    refine CW.seq (fun K24 hK24 hE24 => ?_)
                    refine CW.seq (fun K25 hK25 hE25 => ?_)
                    refine CW.region_tail 8 rfl (by kernel_rfl) (fun T4 hT4 => ?_)
                    refine LR.v (Y.move rfl rfl) (Wd.u rfl) rfl rfl ?_
                    refine LR.v (Y.move rfl rfl) (Wd.u rfl) rfl rfl ?_
                    have hil : i < a.length := by omega
                    have hkl : k < b.length := by omega
                    refine LR.e (g := fun ad => .pointer (some ad)) (Y.indexAddrF ha (i) rfl Try.runUnderlying26 Try.sizeOf35 rfl rfl (by first | rfl | omega) (by first | omega | (simp; omega) | (simp; done))) (Wd.u rfl) rfl rfl (fun ad20 pt20 => ?_)
                    have bf_pt20 := bf_ha
                    refine LR.v (Y.loadN pt20.pt rfl Try.isAgg35 Try.sizeOf35 (rfl) rfl) (Wd.u rfl) rfl rfl ?_
                    refine LR.v (Y.move rfl rfl) (Wd.u rfl) rfl rfl ?_
                    refine LR.v (Y.move rfl rfl) (Wd.u rfl) rfl rfl ?_
                    refine LR.e (g := fun ad => .pointer (some ad)) (Y.indexAddrF hb (k) rfl Try.runUnderlying26 Try.sizeOf35 rfl rfl (by first | rfl | omega) (by first | omega | (simp; omega) | (simp; done))) (Wd.u rfl) rfl rfl (fun ad24 pt24 => ?_)
                    have bf_pt24 := bf_hb
                    refine LR.v (Y.loadN pt24.pt rfl Try.isAgg35 Try.sizeOf35 (rfl) rfl) (Wd.u rfl) rfl rfl ?_
                    refine LR.nil (hT4 _ ?_)
                    -- call selvage/selvageref15.Same
                    refine LR.call rfl Try.call28 rfl (Wd.u rfl) rfl rfl (samef_ct a[i] b[k] w0 _ (hx a[i] (List.getElem_mem hil)).d.any (hy b[k] (List.getElem_mem hkl)).d.any) (fun v26 H26 r26 => ?_)
                    obtain ⟨rfl, hs26⟩ := r26
                    replace ha := ha.nw hs26
                    replace hb := hb.nw hs26
                    replace hx := fun x hx0 => (hx x hx0).nw hs26
                    replace hy := fun x hy0 => (hy x hy0).nw hs26
                    replace ow := ow.nw hs26
                    replace pt20 := pt20.nw hs26
                    replace pt24 := pt24.nw hs26
                    replace hm0 := hm0.tr hs26
                    replace hlm1 := hlm1.tr hs26
                    have hz17 := hs26.size
                    refine LR.v (Y.not rfl rfl) (Wd.u rfl) rfl rfl ?_
                    refine LR.nil ?_
                    refine hK25 _ _ ?_
                    refine CW.cond rfl (fun c27 => ?_) (fun c27 => ?_)
                    ·
                      have hsm : ¬ sameF a[i] b[k] = true := by simpa using c27
                      refine CW.region_any (fun Hq => Mo (Ms [ko]) H26 Hq) [] rfl ?_
                      have hq5 : Mo (Ms [ko]) H26 H26 := Mo.refl _ _
                      have nx128 := Nx.refl ko H26.size
                      refine LH.take 0 (by kernel_rfl) rfl (by kernel_rfl) (by kernel_rfl) (by kernel_rfl) (fun Hq hq => Y.move rfl rfl) (Wd.u rfl) rfl rfl hq5 ?_
                      refine LH.take 1 (by kernel_rfl) rfl (by kernel_rfl) (by kernel_rfl) (by kernel_rfl) (fun Hq hq => Y.move rfl rfl) (Wd.u rfl) rfl rfl hq5 ?_
                      refine LH.take 2 (by kernel_rfl) rfl (by kernel_rfl) (by kernel_rfl) (by kernel_rfl) (fun Hq hq => Y.move rfl rfl) (Wd.u rfl) rfl rfl hq5 ?_
                      refine LH.e (g := fun ad => .pointer (some ad)) 3 (by kernel_rfl) rfl (by kernel_rfl) (by kernel_rfl) (by kernel_rfl) (Y.indexAddrF ha (i) rfl Try.runUnderlying26 Try.sizeOf35 rfl rfl (by first | rfl | omega) (by first | omega | (simp; omega) | (simp; done))) (Wd.u rfl) rfl rfl hq5 (fun ad31 pt31 => ?_)
                      have bf_pt31 := bf_ha
                      refine LH.take 4 (by kernel_rfl) rfl (by kernel_rfl) (by kernel_rfl) (by kernel_rfl) (fun Hq hq => Y.loadN (pt31.upL hq (DFL.cons df1 DFL.nil)).pt rfl Try.isAgg35 Try.sizeOf35 (rfl) rfl) (Wd.u rfl) rfl rfl hq5 ?_
                      refine LH.take 5 (by kernel_rfl) rfl (by kernel_rfl) (by kernel_rfl) (by kernel_rfl) (fun Hq hq => Y.move rfl rfl) (Wd.u rfl) rfl rfl hq5 ?_
                      refine LH.take 6 (by kernel_rfl) rfl (by kernel_rfl) (by kernel_rfl) (by kernel_rfl) (fun Hq hq => Y.move rfl rfl) (Wd.u rfl) rfl rfl hq5 ?_
                      refine LH.e (g := fun ad => .pointer (some ad)) 7 (by kernel_rfl) rfl (by kernel_rfl) (by kernel_rfl) (by kernel_rfl) (Y.indexAddrF hb (k) rfl Try.runUnderlying26 Try.sizeOf35 rfl rfl (by first | rfl | omega) (by first | omega | (simp; omega) | (simp; done))) (Wd.u rfl) rfl rfl hq5 (fun ad35 pt35 => ?_)
                      have bf_pt35 := bf_hb
                      refine LH.take 8 (by kernel_rfl) rfl (by kernel_rfl) (by kernel_rfl) (by kernel_rfl) (fun Hq hq => Y.loadN (pt35.upL hq (DFL.cons df2 DFL.nil)).pt rfl Try.isAgg35 Try.sizeOf35 (rfl) rfl) (Wd.u rfl) rfl rfl hq5 ?_
                      refine LH.take 9 (by kernel_rfl) rfl (by kernel_rfl) (by kernel_rfl) (by kernel_rfl) (fun Hq hq => Y.build (v := .agg (fCh ⟨a[i], b[k]⟩).toArray) rfl rfl (by intro w; kernel_rfl)) (Wd.u rfl) rfl rfl hq5 ?_
                      refine LH.one (i := 10) (by kernel_rfl) ?_
                      refine LO.z rfl (Z.litw _ ([(⟨a[i], b[k]⟩ : Ch)]) rfl inf28 rfl rfl rfl (by decide) (by decide) fCh_len fCh_one (rfl)) (Wd.u rfl) rfl rfl (fun v38 H38 r38 => ?_)
                      obtain ⟨nw38, hs38, ob38, hH38⟩ := r38
                      have hzs38 : H38.size = H26.size + 1 := by rw [hH38]; simp
                      have df129 := (DF.new (bf_ha.mono hm0.size) : DF _ (H26.size + 1))
                      have df130 := (DF.new (bf_hb.mono hm0.size) : DF _ (H26.size + 1))
                      have df131 := (DF.new (bf_hx.mono hm0.size) : DF _ (H26.size + 1))
                      have df132 := (DF.new (bf_hy.mono hm0.size) : DF _ (H26.size + 1))
                      have dj133 : Dj ko (H26.size + 1) := Dj.new ow.le
                      have df134 := (DF.new (bf_pt31.mono hm0.size) : DF _ (H26.size + 1))
                      have df135 := (DF.new (bf_pt35.mono hm0.size) : DF _ (H26.size + 1))
                      have nx136 : Nx 0 H0.size (H26.size + 1) := Nx.new hm0.size
                      have nx137 : Nx 0 H0.size (H26.size + 1) := Nx.new hlm1.size
                      have nx138 : Nx 0 H26.size (H26.size + 1) := Nx.new hq5.size
                      replace ha := ha.nw hs38
                      replace hb := hb.nw hs38
                      replace hx := fun x hx0 => (hx x hx0).nw hs38
                      replace hy := fun x hy0 => (hy x hy0).nw hs38
                      replace ow := ow.nw hs38
                      replace pt31 := pt31.nw hs38
                      replace pt35 := pt35.nw hs38
                      replace hm0 := hm0.tr hs38
                      replace hlm1 := hlm1.tr hs38
                      replace hq5 := hq5.trN hs38
                      have hz18 := hs38.size
                      refine ⟨.inr hq5, LH.narrow (SH2 := fun Hq => Mo (Ms [ko, (H26.size + 1)]) H38 Hq) (fun Hq hq => hq5.trL hq (MIL.cons (MI.app (MI.root (by simp)) (nx128) (Nat.le_refl _)) (MIL.cons (MI.app MI.z (nx138) (Nat.le_refl _)) MIL.nil))) ?_⟩
                      have hq5 : Mo (Ms [ko, (H26.size + 1)]) H38 H38 := Mo.refl _ _
                      have nx139 := Nx.refl ko H38.size
                      have nx140 := Nx.refl (H26.size + 1) H38.size
                      refine LH.one (i := 11) (by kernel_rfl) ?_
                      refine LO.z rfl (Z.apnd ow nw38.rd rfl inf28 rfl rfl (by simp; omega) (by simp; omega)) (Wd.u rfl) rfl rfl (fun v39 H39 r39 => ?_)
                      obtain ⟨k39, ow, hk39, hs39⟩ := r39
                      replace hk39 : Nx ko H38.size k39 := hk39
                      replace hs39 := hs39.md
                      have df141 := DF.app (df1) (bf_ha.mono hm0.size) hk39
                      have df142 := DF.app (df2) (bf_hb.mono hm0.size) hk39
                      have df143 := DF.app (df3) (bf_hx.mono hm0.size) hk39
                      have df144 := DF.app (df4) (bf_hy.mono hm0.size) hk39
                      have df145 := DF.app (df1) (bf_pt31.mono hm0.size) hk39
                      have df146 := DF.app (df2) (bf_pt35.mono hm0.size) hk39
                      have dj147 : Dj (H26.size + 1) k39 := Dj.app (dj133.symm) nw38.le hk39
                      have nx148 : Nx 0 H0.size k39 := Nx.tr (nx5) hk39 hm0.size
                      have nx149 : Nx 0 H0.size k39 := Nx.tr (nx6) hk39 hlm1.size
                      have nx150 : Nx ko H38.size k39 := Nx.tr (nx139) hk39 hq5.size
                      replace ha := ha.upL hs39 (DFL.cons df1 DFL.nil)
                      replace hb := hb.upL hs39 (DFL.cons df2 DFL.nil)
                      replace hx := fun x hx0 => (hx x hx0).upL hs39 (DFL.cons df3 DFL.nil)
                      replace hy := fun x hy0 => (hy x hy0).upL hs39 (DFL.cons df4 DFL.nil)
                      replace pt31 := pt31.upL hs39 (DFL.cons df1 DFL.nil)
                      replace pt35 := pt35.upL hs39 (DFL.cons df2 DFL.nil)
                      replace nw38 := nw38.upL hs39 (DL.cons dj133.symm DL.nil)
                      replace hm0 := (Mo.trL (ks := []) (hm0.mdn []) hs39 (MIL.cons (MI.app MI.z (nx5) (Nat.le_refl _)) MIL.nil)).nil
                      replace hlm1 := (Mo.trL (ks := []) (hlm1.mdn []) hs39 (MIL.cons (MI.app MI.z (nx6) (Nat.le_refl _)) MIL.nil)).nil
                      replace hq5 := hq5.trL hs39 (MIL.cons (MI.app (MI.root (by simp)) (nx139) (Nat.le_refl _)) MIL.nil)
                      have hz19 := hs39.size
                      have hle_ow := ow.le
                      refine ⟨.inr hq5, LH.narrow (SH2 := fun Hq => Mo (Ms [k39, (H26.size + 1)]) H39 Hq) (fun Hq hq => hq5.trL hq (MIL.cons (MI.app (MI.root (by simp)) (nx150) (Nat.le_refl _)) (MIL.cons (MI.app (MI.root (by simp)) (nx140) (Nat.le_refl _)) MIL.nil))) ?_⟩
                      have hq5 : Mo (Ms [k39, (H26.size + 1)]) H39 H39 := Mo.refl _ _
                      have nx151 := Nx.refl k39 H39.size
                      have nx152 := Nx.refl (H26.size + 1) H39.size
                      refine LH.take 12 (by kernel_rfl) rfl (by kernel_rfl) (by kernel_rfl) (by kernel_rfl) (fun Hq hq => Y.assign rfl rfl) (Wd.u rfl) rfl rfl hq5 ?_
                      refine LH.done (by kernel_rfl) ?_
                      refine hK24 _ _ ?_
                      refine CW.seq (fun K26 hK26 hE26 => ?_)
                      refine CW.region ?_
                      refine LR.v (Y.move rfl rfl) (Wd.u rfl) rfl rfl ?_
                      refine LR.v (Y.addi rfl rfl rfl (by omega)) (Wd.u rfl) rfl rfl ?_
                      refine LR.v (Y.assign rfl rfl) (Wd.u rfl) rfl rfl ?_
                      refine LR.nil ?_
                      refine hK26 _ _ ?_
                      refine CW.region ?_
                      refine LR.v (Y.move rfl rfl) (Wd.u rfl) rfl rfl ?_
                      refine LR.v (Y.addi rfl rfl rfl (by omega)) (Wd.u rfl) rfl rfl ?_
                      refine LR.v (Y.assign rfl rfl) (Wd.u rfl) rfl rfl ?_
                      refine LR.nil ?_
                      refine hK10 _ _ ?_
                      refine hK9 _ _ ?_
                      refine QN.sub (hN6 (i + 1, k + 1, v39, k39, out ++ [⟨a[i], b[k]⟩]) _ ?_ ?_) ⟨rfl, rfl, rfl, (iv (by omega)), (iv (by omega)), trivial⟩
                      · exact ⟨(by omega), (by omega), ow, by rw [← he, diff_c hil hkl (by assumption) (by assumption), if_neg hsm]; simp, (by simp; omega), nx149, hlm1⟩
                      · first | omega | (simp only; omega) | (simp; omega)
                    ·
                      have hsm : sameF a[i] b[k] = true := by simpa using c27
                      refine CW.skip ?_
                      refine hK24 _ _ ?_
                      refine CW.seq (fun K27 hK27 hE27 => ?_)
                      refine CW.region ?_
                      refine LR.v (Y.move rfl rfl) (Wd.u rfl) rfl rfl ?_
                      refine LR.v (Y.addi rfl rfl rfl (by omega)) (Wd.u rfl) rfl rfl ?_
                      refine LR.v (Y.assign rfl rfl) (Wd.u rfl) rfl rfl ?_
                      refine LR.nil ?_
                      refine hK27 _ _ ?_
                      refine CW.region ?_
                      refine LR.v (Y.move rfl rfl) (Wd.u rfl) rfl rfl ?_
                      refine LR.v (Y.addi rfl rfl rfl (by omega)) (Wd.u rfl) rfl rfl ?_
                      refine LR.v (Y.assign rfl rfl) (Wd.u rfl) rfl rfl ?_
                      refine LR.nil ?_
                      refine hK10 _ _ ?_
                      refine hK9 _ _ ?_
                      refine QN.sub (hN6 (i + 1, k + 1, vo, ko, out) _ ?_ ?_) ⟨rfl, rfl, rfl, (iv (by omega)), (iv (by omega)), trivial⟩
                      · exact ⟨(by omega), (by omega), ow, by rw [← he, diff_c hil hkl (by assumption) (by assumption), if_pos hsm], (by omega), nx6, hlm1⟩
                      · first | omega | (simp only; omega) | (simp; omega)
  ·
    first
    | exfalso; omega
    | skip
      refine LR.v (Y.move rfl rfl) (Wd.g rfl rfl rfl) rfl rfl ?_
      refine LR.v (Y.move rfl rfl) (Wd.g rfl rfl rfl) rfl rfl ?_
      refine LR.v (Y.len hb rfl Try.runUnderlying26 rfl) (Wd.g rfl rfl rfl) rfl rfl ?_
      refine LR.v (Y.lss rfl rfl rfl) (Wd.g rfl rfl rfl) rfl rfl ?_
      refine LR.v (Y.pick_f rfl rfl rfl) (Wd.u rfl) rfl rfl ?_
      refine LR.nil ?_
      refine hK8 _ _ ?_
      refine CW.condp rfl (fun c17 => ?_) (fun c17 => ?_)
      ·
        first
        | exfalso; omega
        | skip
          refine CW.skip ?_
          refine hK7 _ _ ?_
          refine CW.block (fun K28 hK28 hX28 hE28 => ?_)
          refine CW.block (fun K29 hK29 hX29 hE29 => ?_)
          refine CW.seq (fun K30 hK30 hE30 => ?_)
          refine CW.region_draw rfl (by kernel_rfl) ?_
          refine LR.v (Y.move rfl rfl) (Wd.u rfl) rfl rfl ?_
          refine LR.v (Y.move rfl rfl) (Wd.u rfl) rfl rfl ?_
          refine LR.v (Y.len hb rfl Try.runUnderlying26 rfl) (Wd.u rfl) rfl rfl ?_
          refine LR.v (Y.geq rfl rfl rfl) (Wd.u rfl) rfl rfl ?_
          refine LR.v (Y.move rfl rfl) (Wd.u rfl) rfl rfl ?_
          refine LR.splitp (d := 49) rfl (fun g49 => ?_) (fun g49 => ?_)
          ·
            first
            | exfalso; omega
            | skip
              refine LR.gs rfl rfl rfl rfl rfl rfl ?_
              refine LR.gs rfl rfl rfl rfl rfl rfl ?_
              refine LR.gs rfl rfl rfl rfl rfl rfl ?_
              refine LR.gs rfl rfl rfl rfl rfl rfl ?_
              refine LR.gs rfl rfl rfl rfl rfl rfl ?_
              refine LR.gsu rfl rfl rfl rfl rfl ?_
              refine LR.gsu rfl rfl rfl rfl rfl ?_
              refine LR.gsu rfl rfl rfl rfl rfl ?_
              refine LR.gsu rfl rfl rfl rfl rfl ?_
              refine LR.gsu rfl rfl rfl rfl rfl ?_
              refine LR.gsu rfl rfl rfl rfl rfl ?_
              refine LR.gsu rfl rfl rfl rfl rfl ?_
              refine LR.gsu rfl rfl rfl rfl rfl ?_
              refine LR.gsu rfl rfl rfl rfl rfl ?_
              refine LR.gsu rfl rfl rfl rfl rfl ?_
              refine LR.gsu rfl rfl rfl rfl rfl ?_
              refine LR.gs rfl rfl rfl rfl rfl rfl ?_
              refine LR.v (Y.pick_t rfl rfl rfl) (Wd.u rfl) rfl rfl ?_
              refine LR.v (Y.assign rfl rfl) (Wd.u rfl) rfl rfl ?_
              refine LR.nil ?_
              refine hK30 _ _ ?_
              refine CW.cond_t rfl ?_
              refine CW.seq (fun K31 hK31 hE31 => ?_)
              refine CW.region ?_
              refine LR.v (Y.move rfl rfl) (Wd.u rfl) rfl rfl ?_
              refine LR.v (Y.move rfl rfl) (Wd.u rfl) rfl rfl ?_
              refine LR.v (Y.move rfl rfl) (Wd.u rfl) rfl rfl ?_
              have hil0 : i < a.length := by omega
              refine LR.e (g := fun ad => .pointer (some ad)) (Y.indexAddrF ha (i) rfl Try.runUnderlying26 Try.sizeOf35 rfl rfl (by first | rfl | omega) (by first | omega | (simp; omega) | (simp; done))) (Wd.u rfl) rfl rfl (fun ad71 pt71 => ?_)
              have bf_pt71 := bf_ha
              refine LR.v (Y.loadN pt71.pt rfl Try.isAgg35 Try.sizeOf35 (rfl) rfl) (Wd.u rfl) rfl rfl ?_
              refine LR.v (Y.build (v := .agg (fCh ⟨a[i], zFl⟩).toArray) rfl rfl (by intro w; kernel_rfl)) (Wd.u rfl) rfl rfl ?_
              refine LR.z (Z.litw _ ([(⟨a[i], zFl⟩ : Ch)]) rfl inf28 rfl rfl rfl (by decide) (by decide) fCh_len fCh_one (rfl)) (Wd.u rfl) rfl rfl (fun v74 H74 r74 => ?_)
              obtain ⟨nw74, hs74, ob74, hH74⟩ := r74
              have hzs74 : H74.size = HL1.size + 1 := by rw [hH74]; simp
              have df153 := (DF.new (bf_ha.mono hm0.size) : DF _ (HL1.size + 1))
              have df154 := (DF.new (bf_hb.mono hm0.size) : DF _ (HL1.size + 1))
              have df155 := (DF.new (bf_hx.mono hm0.size) : DF _ (HL1.size + 1))
              have df156 := (DF.new (bf_hy.mono hm0.size) : DF _ (HL1.size + 1))
              have dj157 : Dj ko (HL1.size + 1) := Dj.new ow.le
              have df158 := (DF.new (bf_pt71.mono hm0.size) : DF _ (HL1.size + 1))
              have nx159 : Nx 0 H0.size (HL1.size + 1) := Nx.new hm0.size
              have nx160 : Nx 0 H0.size (HL1.size + 1) := Nx.new hlm1.size
              replace ha := ha.nw hs74
              replace hb := hb.nw hs74
              replace hx := fun x hx0 => (hx x hx0).nw hs74
              replace hy := fun x hy0 => (hy x hy0).nw hs74
              replace ow := ow.nw hs74
              replace pt71 := pt71.nw hs74
              replace hm0 := hm0.tr hs74
              replace hlm1 := hlm1.tr hs74
              have hz20 := hs74.size
              refine LR.z (Z.apnd ow nw74.rd rfl inf28 rfl rfl (by simp; omega) (by simp; omega)) (Wd.u rfl) rfl rfl (fun v75 H75 r75 => ?_)
              obtain ⟨k75, ow, hk75, hs75⟩ := r75
              replace hk75 : Nx ko H74.size k75 := hk75
              replace hs75 := hs75.md
              have df161 := DF.app (df1) (bf_ha.mono hm0.size) hk75
              have df162 := DF.app (df2) (bf_hb.mono hm0.size) hk75
              have df163 := DF.app (df3) (bf_hx.mono hm0.size) hk75
              have df164 := DF.app (df4) (bf_hy.mono hm0.size) hk75
              have df165 := DF.app (df1) (bf_pt71.mono hm0.size) hk75
              have dj166 : Dj (HL1.size + 1) k75 := Dj.app (dj157.symm) nw74.le hk75
              have nx167 : Nx 0 H0.size k75 := Nx.tr (nx5) hk75 hm0.size
              have nx168 : Nx 0 H0.size k75 := Nx.tr (nx6) hk75 hlm1.size
              replace ha := ha.upL hs75 (DFL.cons df1 DFL.nil)
              replace hb := hb.upL hs75 (DFL.cons df2 DFL.nil)
              replace hx := fun x hx0 => (hx x hx0).upL hs75 (DFL.cons df3 DFL.nil)
              replace hy := fun x hy0 => (hy x hy0).upL hs75 (DFL.cons df4 DFL.nil)
              replace pt71 := pt71.upL hs75 (DFL.cons df1 DFL.nil)
              replace nw74 := nw74.upL hs75 (DL.cons dj157.symm DL.nil)
              replace hm0 := (Mo.trL (ks := []) (hm0.mdn []) hs75 (MIL.cons (MI.app MI.z (nx5) (Nat.le_refl _)) MIL.nil)).nil
              replace hlm1 := (Mo.trL (ks := []) (hlm1.mdn []) hs75 (MIL.cons (MI.app MI.z (nx6) (Nat.le_refl _)) MIL.nil)).nil
              have hz21 := hs75.size
              have hle_ow := ow.le
              refine LR.v (Y.assign rfl rfl) (Wd.u rfl) rfl rfl ?_
              refine LR.nil ?_
              refine hK31 _ _ ?_
              refine CW.region ?_
              refine LR.v (Y.move rfl rfl) (Wd.u rfl) rfl rfl ?_
              refine LR.v (Y.addi rfl rfl rfl (by omega)) (Wd.u rfl) rfl rfl ?_
              refine LR.v (Y.assign rfl rfl) (Wd.u rfl) rfl rfl ?_
              refine LR.nil ?_
              refine hK29 _ _ ?_
              refine hK28 _ _ ?_
              have hil : i < a.length := by omega
              refine QN.sub (hN6 (i + 1, k, v75, k75, out ++ [⟨a[i], zFl⟩]) _ ?_ ?_) ⟨rfl, rfl, rfl, (iv (by omega)), (iv (by omega)), trivial⟩
              · exact ⟨(by omega), (by omega), ow, by rw [← he, diff_a hil (by first | exact .inl (by omega) | exact .inr ⟨by omega, by assumption⟩)]; simp, (by simp; omega), nx168, hlm1⟩
              · first | omega | (simp only; omega) | (simp; omega)
          ·
            first
            | exfalso; omega
            | skip
              refine LR.v (Y.move rfl rfl) (Wd.g rfl rfl rfl) rfl rfl ?_
              refine LR.v (Y.move rfl rfl) (Wd.g rfl rfl rfl) rfl rfl ?_
              refine LR.v (Y.len ha rfl Try.runUnderlying26 rfl) (Wd.g rfl rfl rfl) rfl rfl ?_
              refine LR.v (Y.lss rfl rfl rfl) (Wd.g rfl rfl rfl) rfl rfl ?_
              refine LR.v (Y.move rfl rfl) (Wd.g rfl rfl rfl) rfl rfl ?_
              refine LR.splitp (d := 54) rfl (fun g54 => ?_) (fun g54 => ?_)
              ·
                first
                | exfalso; omega
                | skip
                  refine LR.v (Y.move rfl rfl) (Wd.g rfl rfl rfl) rfl rfl ?_
                  refine LR.v (Y.move rfl rfl) (Wd.g rfl rfl rfl) rfl rfl ?_
                  refine LR.e (g := fun ad => .pointer (some ad)) (Y.indexAddrF ha (i) rfl Try.runUnderlying26 Try.sizeOf35 rfl rfl (by first | rfl | omega) (by first | omega | (simp; omega) | (simp; done))) (Wd.g rfl rfl rfl) rfl rfl (fun ad57 pt57 => ?_)
                  have bf_pt57 := bf_ha
                  refine LR.v (Y.fieldAddr pt57.pt rfl Try.runUnderlying35 rfl rfl Try.sizeOf9 (by decide) rfl) (Wd.g rfl rfl rfl) rfl rfl ?_
                  refine LR.v (Y.load1 (pt57.pt.drop 0) rfl Try.isAgg9 rfl) (Wd.g rfl rfl rfl) rfl rfl ?_
                  refine LR.v (Y.move rfl rfl) (Wd.g rfl rfl rfl) rfl rfl ?_
                  refine LR.v (Y.move rfl rfl) (Wd.g rfl rfl rfl) rfl rfl ?_
                  refine LR.e (g := fun ad => .pointer (some ad)) (Y.indexAddrF hb (k) rfl Try.runUnderlying26 Try.sizeOf35 rfl rfl (by first | rfl | omega) (by first | omega | (simp; omega) | (simp; done))) (Wd.g rfl rfl rfl) rfl rfl (fun ad62 pt62 => ?_)
                  have bf_pt62 := bf_hb
                  refine LR.v (Y.fieldAddr pt62.pt rfl Try.runUnderlying35 rfl rfl Try.sizeOf9 (by decide) rfl) (Wd.g rfl rfl rfl) rfl rfl ?_
                  refine LR.v (Y.load1 (pt62.pt.drop 0) rfl Try.isAgg9 rfl) (Wd.g rfl rfl rfl) rfl rfl ?_
                  refine LR.v (Y.slss rfl rfl rfl) (Wd.g rfl rfl rfl) rfl rfl ?_
                  refine LR.v (Y.pick_t rfl rfl rfl) (Wd.g rfl rfl rfl) rfl rfl ?_
                  refine LR.v (Y.pick_f rfl rfl rfl) (Wd.u rfl) rfl rfl ?_
                  refine LR.v (Y.assign rfl rfl) (Wd.u rfl) rfl rfl ?_
                  refine LR.nil ?_
                  refine hK30 _ _ ?_
                  refine CW.cond rfl (fun c44 => ?_) (fun c44 => ?_)
                  ·
                    refine CW.seq (fun K32 hK32 hE32 => ?_)
                    refine CW.region ?_
                    refine LR.v (Y.move rfl rfl) (Wd.u rfl) rfl rfl ?_
                    refine LR.v (Y.move rfl rfl) (Wd.u rfl) rfl rfl ?_
                    refine LR.v (Y.move rfl rfl) (Wd.u rfl) rfl rfl ?_
                    have hil0 : i < a.length := by omega
                    refine LR.e (g := fun ad => .pointer (some ad)) (Y.indexAddrF ha (i) rfl Try.runUnderlying26 Try.sizeOf35 rfl rfl (by first | rfl | omega) (by first | omega | (simp; omega) | (simp; done))) (Wd.u rfl) rfl rfl (fun ad71 pt71 => ?_)
                    have bf_pt71 := bf_ha
                    refine LR.v (Y.loadN pt71.pt rfl Try.isAgg35 Try.sizeOf35 (rfl) rfl) (Wd.u rfl) rfl rfl ?_
                    refine LR.v (Y.build (v := .agg (fCh ⟨a[i], zFl⟩).toArray) rfl rfl (by intro w; kernel_rfl)) (Wd.u rfl) rfl rfl ?_
                    refine LR.z (Z.litw _ ([(⟨a[i], zFl⟩ : Ch)]) rfl inf28 rfl rfl rfl (by decide) (by decide) fCh_len fCh_one (rfl)) (Wd.u rfl) rfl rfl (fun v74 H74 r74 => ?_)
                    obtain ⟨nw74, hs74, ob74, hH74⟩ := r74
                    have hzs74 : H74.size = HL1.size + 1 := by rw [hH74]; simp
                    have df169 := (DF.new (bf_ha.mono hm0.size) : DF _ (HL1.size + 1))
                    have df170 := (DF.new (bf_hb.mono hm0.size) : DF _ (HL1.size + 1))
                    have df171 := (DF.new (bf_hx.mono hm0.size) : DF _ (HL1.size + 1))
                    have df172 := (DF.new (bf_hy.mono hm0.size) : DF _ (HL1.size + 1))
                    have dj173 : Dj ko (HL1.size + 1) := Dj.new ow.le
                    have df174 := (DF.new (bf_pt71.mono hm0.size) : DF _ (HL1.size + 1))
                    have nx175 : Nx 0 H0.size (HL1.size + 1) := Nx.new hm0.size
                    have nx176 : Nx 0 H0.size (HL1.size + 1) := Nx.new hlm1.size
                    replace ha := ha.nw hs74
                    replace hb := hb.nw hs74
                    replace hx := fun x hx0 => (hx x hx0).nw hs74
                    replace hy := fun x hy0 => (hy x hy0).nw hs74
                    replace ow := ow.nw hs74
                    replace pt71 := pt71.nw hs74
                    replace hm0 := hm0.tr hs74
                    replace hlm1 := hlm1.tr hs74
                    have hz22 := hs74.size
                    refine LR.z (Z.apnd ow nw74.rd rfl inf28 rfl rfl (by simp; omega) (by simp; omega)) (Wd.u rfl) rfl rfl (fun v75 H75 r75 => ?_)
                    obtain ⟨k75, ow, hk75, hs75⟩ := r75
                    replace hk75 : Nx ko H74.size k75 := hk75
                    replace hs75 := hs75.md
                    have df177 := DF.app (df1) (bf_ha.mono hm0.size) hk75
                    have df178 := DF.app (df2) (bf_hb.mono hm0.size) hk75
                    have df179 := DF.app (df3) (bf_hx.mono hm0.size) hk75
                    have df180 := DF.app (df4) (bf_hy.mono hm0.size) hk75
                    have df181 := DF.app (df1) (bf_pt71.mono hm0.size) hk75
                    have dj182 : Dj (HL1.size + 1) k75 := Dj.app (dj173.symm) nw74.le hk75
                    have nx183 : Nx 0 H0.size k75 := Nx.tr (nx5) hk75 hm0.size
                    have nx184 : Nx 0 H0.size k75 := Nx.tr (nx6) hk75 hlm1.size
                    replace ha := ha.upL hs75 (DFL.cons df1 DFL.nil)
                    replace hb := hb.upL hs75 (DFL.cons df2 DFL.nil)
                    replace hx := fun x hx0 => (hx x hx0).upL hs75 (DFL.cons df3 DFL.nil)
                    replace hy := fun x hy0 => (hy x hy0).upL hs75 (DFL.cons df4 DFL.nil)
                    replace pt71 := pt71.upL hs75 (DFL.cons df1 DFL.nil)
                    replace nw74 := nw74.upL hs75 (DL.cons dj173.symm DL.nil)
                    replace hm0 := (Mo.trL (ks := []) (hm0.mdn []) hs75 (MIL.cons (MI.app MI.z (nx5) (Nat.le_refl _)) MIL.nil)).nil
                    replace hlm1 := (Mo.trL (ks := []) (hlm1.mdn []) hs75 (MIL.cons (MI.app MI.z (nx6) (Nat.le_refl _)) MIL.nil)).nil
                    have hz23 := hs75.size
                    have hle_ow := ow.le
                    refine LR.v (Y.assign rfl rfl) (Wd.u rfl) rfl rfl ?_
                    refine LR.nil ?_
                    refine hK32 _ _ ?_
                    refine CW.region ?_
                    refine LR.v (Y.move rfl rfl) (Wd.u rfl) rfl rfl ?_
                    refine LR.v (Y.addi rfl rfl rfl (by omega)) (Wd.u rfl) rfl rfl ?_
                    refine LR.v (Y.assign rfl rfl) (Wd.u rfl) rfl rfl ?_
                    refine LR.nil ?_
                    refine hK29 _ _ ?_
                    refine hK28 _ _ ?_
                    have hil : i < a.length := by omega
                    refine QN.sub (hN6 (i + 1, k, v75, k75, out ++ [⟨a[i], zFl⟩]) _ ?_ ?_) ⟨rfl, rfl, rfl, (iv (by omega)), (iv (by omega)), trivial⟩
                    · exact ⟨(by omega), (by omega), ow, by rw [← he, diff_a hil (by first | exact .inl (by omega) | exact .inr ⟨by omega, by assumption⟩)]; simp, (by simp; omega), nx184, hlm1⟩
                    · first | omega | (simp only; omega) | (simp; omega)
                  ·
                    refine CW.seq (fun K33 hK33 hE33 => ?_)
                    refine CW.region_draw rfl (by kernel_rfl) ?_
                    refine LR.v (Y.move rfl rfl) (Wd.u rfl) rfl rfl ?_
                    refine LR.v (Y.move rfl rfl) (Wd.u rfl) rfl rfl ?_
                    refine LR.v (Y.len ha rfl Try.runUnderlying26 rfl) (Wd.u rfl) rfl rfl ?_
                    refine LR.v (Y.geq rfl rfl rfl) (Wd.u rfl) rfl rfl ?_
                    refine LR.v (Y.move rfl rfl) (Wd.u rfl) rfl rfl ?_
                    refine LR.splitp (d := 83) rfl (fun g83 => ?_) (fun g83 => ?_)
                    ·
                      first
                      | exfalso; omega
                      | skip
                        refine LR.gs rfl rfl rfl rfl rfl rfl ?_
                        refine LR.gs rfl rfl rfl rfl rfl rfl ?_
                        refine LR.gs rfl rfl rfl rfl rfl rfl ?_
                        refine LR.gs rfl rfl rfl rfl rfl rfl ?_
                        refine LR.gs rfl rfl rfl rfl rfl rfl ?_
                        refine LR.gs rfl rfl rfl rfl rfl rfl ?_
                        refine LR.gs rfl rfl rfl rfl rfl rfl ?_
                        refine LR.gs rfl rfl rfl rfl rfl rfl ?_
                        refine LR.gs rfl rfl rfl rfl rfl rfl ?_
                        refine LR.gs rfl rfl rfl rfl rfl rfl ?_
                        refine LR.gs rfl rfl rfl rfl rfl rfl ?_
                        refine LR.v (Y.pick_t rfl rfl rfl) (Wd.u rfl) rfl rfl ?_
                        refine LR.v (Y.assign rfl rfl) (Wd.u rfl) rfl rfl ?_
                        refine LR.nil ?_
                        refine hK33 _ _ ?_
                        refine CW.cond_t rfl ?_
                        refine CW.seq (fun K34 hK34 hE34 => ?_)
                        refine CW.region ?_
                        refine LR.v (Y.move rfl rfl) (Wd.u rfl) rfl rfl ?_
                        refine LR.v (Y.move rfl rfl) (Wd.u rfl) rfl rfl ?_
                        refine LR.v (Y.move rfl rfl) (Wd.u rfl) rfl rfl ?_
                        have hkl0 : k < b.length := by omega
                        refine LR.e (g := fun ad => .pointer (some ad)) (Y.indexAddrF hb (k) rfl Try.runUnderlying26 Try.sizeOf35 rfl rfl (by first | rfl | omega) (by first | omega | (simp; omega) | (simp; done))) (Wd.u rfl) rfl rfl (fun ad99 pt99 => ?_)
                        have bf_pt99 := bf_hb
                        refine LR.v (Y.loadN pt99.pt rfl Try.isAgg35 Try.sizeOf35 (rfl) rfl) (Wd.u rfl) rfl rfl ?_
                        refine LR.v (Y.build (v := .agg (fCh ⟨zFl, b[k]⟩).toArray) rfl rfl (by intro w; kernel_rfl)) (Wd.u rfl) rfl rfl ?_
                        refine LR.z (Z.litw _ ([(⟨zFl, b[k]⟩ : Ch)]) rfl inf28 rfl rfl rfl (by decide) (by decide) fCh_len fCh_one (rfl)) (Wd.u rfl) rfl rfl (fun v102 H102 r102 => ?_)
                        obtain ⟨nw102, hs102, ob102, hH102⟩ := r102
                        have hzs102 : H102.size = HL1.size + 1 := by rw [hH102]; simp
                        have df185 := (DF.new (bf_ha.mono hm0.size) : DF _ (HL1.size + 1))
                        have df186 := (DF.new (bf_hb.mono hm0.size) : DF _ (HL1.size + 1))
                        have df187 := (DF.new (bf_hx.mono hm0.size) : DF _ (HL1.size + 1))
                        have df188 := (DF.new (bf_hy.mono hm0.size) : DF _ (HL1.size + 1))
                        have dj189 : Dj ko (HL1.size + 1) := Dj.new ow.le
                        have df190 := (DF.new (bf_pt99.mono hm0.size) : DF _ (HL1.size + 1))
                        have nx191 : Nx 0 H0.size (HL1.size + 1) := Nx.new hm0.size
                        have nx192 : Nx 0 H0.size (HL1.size + 1) := Nx.new hlm1.size
                        replace ha := ha.nw hs102
                        replace hb := hb.nw hs102
                        replace hx := fun x hx0 => (hx x hx0).nw hs102
                        replace hy := fun x hy0 => (hy x hy0).nw hs102
                        replace ow := ow.nw hs102
                        replace pt99 := pt99.nw hs102
                        replace hm0 := hm0.tr hs102
                        replace hlm1 := hlm1.tr hs102
                        have hz24 := hs102.size
                        refine LR.z (Z.apnd ow nw102.rd rfl inf28 rfl rfl (by simp; omega) (by simp; omega)) (Wd.u rfl) rfl rfl (fun v103 H103 r103 => ?_)
                        obtain ⟨k103, ow, hk103, hs103⟩ := r103
                        replace hk103 : Nx ko H102.size k103 := hk103
                        replace hs103 := hs103.md
                        have df193 := DF.app (df1) (bf_ha.mono hm0.size) hk103
                        have df194 := DF.app (df2) (bf_hb.mono hm0.size) hk103
                        have df195 := DF.app (df3) (bf_hx.mono hm0.size) hk103
                        have df196 := DF.app (df4) (bf_hy.mono hm0.size) hk103
                        have df197 := DF.app (df2) (bf_pt99.mono hm0.size) hk103
                        have dj198 : Dj (HL1.size + 1) k103 := Dj.app (dj189.symm) nw102.le hk103
                        have nx199 : Nx 0 H0.size k103 := Nx.tr (nx5) hk103 hm0.size
                        have nx200 : Nx 0 H0.size k103 := Nx.tr (nx6) hk103 hlm1.size
                        replace ha := ha.upL hs103 (DFL.cons df1 DFL.nil)
                        replace hb := hb.upL hs103 (DFL.cons df2 DFL.nil)
                        replace hx := fun x hx0 => (hx x hx0).upL hs103 (DFL.cons df3 DFL.nil)
                        replace hy := fun x hy0 => (hy x hy0).upL hs103 (DFL.cons df4 DFL.nil)
                        replace pt99 := pt99.upL hs103 (DFL.cons df2 DFL.nil)
                        replace nw102 := nw102.upL hs103 (DL.cons dj189.symm DL.nil)
                        replace hm0 := (Mo.trL (ks := []) (hm0.mdn []) hs103 (MIL.cons (MI.app MI.z (nx5) (Nat.le_refl _)) MIL.nil)).nil
                        replace hlm1 := (Mo.trL (ks := []) (hlm1.mdn []) hs103 (MIL.cons (MI.app MI.z (nx6) (Nat.le_refl _)) MIL.nil)).nil
                        have hz25 := hs103.size
                        have hle_ow := ow.le
                        refine LR.v (Y.assign rfl rfl) (Wd.u rfl) rfl rfl ?_
                        refine LR.nil ?_
                        refine hK34 _ _ ?_
                        refine CW.region ?_
                        refine LR.v (Y.move rfl rfl) (Wd.u rfl) rfl rfl ?_
                        refine LR.v (Y.addi rfl rfl rfl (by omega)) (Wd.u rfl) rfl rfl ?_
                        refine LR.v (Y.assign rfl rfl) (Wd.u rfl) rfl rfl ?_
                        refine LR.nil ?_
                        refine hK29 _ _ ?_
                        refine hK28 _ _ ?_
                        have hkl : k < b.length := by omega
                        refine QN.sub (hN6 (i, k + 1, v103, k103, out ++ [⟨zFl, b[k]⟩]) _ ?_ ?_) ⟨rfl, rfl, rfl, (iv (by omega)), (iv (by omega)), trivial⟩
                        · exact ⟨(by omega), (by omega), ow, by rw [← he, diff_b hkl (by first | exact .inl (by omega) | exact .inr ⟨by omega, by assumption, by assumption⟩)]; simp, (by simp; omega), nx200, hlm1⟩
                        · first | omega | (simp only; omega) | (simp; omega)
                    ·
                      first
                      | exfalso; omega
                      | skip
                        refine LR.v (Y.move rfl rfl) (Wd.g rfl rfl rfl) rfl rfl ?_
                        refine LR.v (Y.move rfl rfl) (Wd.g rfl rfl rfl) rfl rfl ?_
                        refine LR.e (g := fun ad => .pointer (some ad)) (Y.indexAddrF hb (k) rfl Try.runUnderlying26 Try.sizeOf35 rfl rfl (by first | rfl | omega) (by first | omega | (simp; omega) | (simp; done))) (Wd.g rfl rfl rfl) rfl rfl (fun ad86 pt86 => ?_)
                        have bf_pt86 := bf_hb
                        refine LR.v (Y.fieldAddr pt86.pt rfl Try.runUnderlying35 rfl rfl Try.sizeOf9 (by decide) rfl) (Wd.g rfl rfl rfl) rfl rfl ?_
                        refine LR.v (Y.load1 (pt86.pt.drop 0) rfl Try.isAgg9 rfl) (Wd.g rfl rfl rfl) rfl rfl ?_
                        refine LR.v (Y.move rfl rfl) (Wd.g rfl rfl rfl) rfl rfl ?_
                        refine LR.v (Y.move rfl rfl) (Wd.g rfl rfl rfl) rfl rfl ?_
                        refine LR.e (g := fun ad => .pointer (some ad)) (Y.indexAddrF ha (i) rfl Try.runUnderlying26 Try.sizeOf35 rfl rfl (by first | rfl | omega) (by first | omega | (simp; omega) | (simp; done))) (Wd.g rfl rfl rfl) rfl rfl (fun ad91 pt91 => ?_)
                        have bf_pt91 := bf_ha
                        refine LR.v (Y.fieldAddr pt91.pt rfl Try.runUnderlying35 rfl rfl Try.sizeOf9 (by decide) rfl) (Wd.g rfl rfl rfl) rfl rfl ?_
                        refine LR.v (Y.load1 (pt91.pt.drop 0) rfl Try.isAgg9 rfl) (Wd.g rfl rfl rfl) rfl rfl ?_
                        refine LR.v (Y.slss rfl rfl rfl) (Wd.g rfl rfl rfl) rfl rfl ?_
                        refine LR.v (Y.pick_f rfl rfl rfl) (Wd.u rfl) rfl rfl ?_
                        refine LR.v (Y.assign rfl rfl) (Wd.u rfl) rfl rfl ?_
                        refine LR.nil ?_
                        refine hK33 _ _ ?_
                        refine CW.cond rfl (fun c78 => ?_) (fun c78 => ?_)
                        ·
                          refine CW.seq (fun K35 hK35 hE35 => ?_)
                          refine CW.region ?_
                          refine LR.v (Y.move rfl rfl) (Wd.u rfl) rfl rfl ?_
                          refine LR.v (Y.move rfl rfl) (Wd.u rfl) rfl rfl ?_
                          refine LR.v (Y.move rfl rfl) (Wd.u rfl) rfl rfl ?_
                          have hkl0 : k < b.length := by omega
                          refine LR.e (g := fun ad => .pointer (some ad)) (Y.indexAddrF hb (k) rfl Try.runUnderlying26 Try.sizeOf35 rfl rfl (by first | rfl | omega) (by first | omega | (simp; omega) | (simp; done))) (Wd.u rfl) rfl rfl (fun ad99 pt99 => ?_)
                          have bf_pt99 := bf_hb
                          refine LR.v (Y.loadN pt99.pt rfl Try.isAgg35 Try.sizeOf35 (rfl) rfl) (Wd.u rfl) rfl rfl ?_
                          refine LR.v (Y.build (v := .agg (fCh ⟨zFl, b[k]⟩).toArray) rfl rfl (by intro w; kernel_rfl)) (Wd.u rfl) rfl rfl ?_
                          refine LR.z (Z.litw _ ([(⟨zFl, b[k]⟩ : Ch)]) rfl inf28 rfl rfl rfl (by decide) (by decide) fCh_len fCh_one (rfl)) (Wd.u rfl) rfl rfl (fun v102 H102 r102 => ?_)
                          obtain ⟨nw102, hs102, ob102, hH102⟩ := r102
                          have hzs102 : H102.size = HL1.size + 1 := by rw [hH102]; simp
                          have df201 := (DF.new (bf_ha.mono hm0.size) : DF _ (HL1.size + 1))
                          have df202 := (DF.new (bf_hb.mono hm0.size) : DF _ (HL1.size + 1))
                          have df203 := (DF.new (bf_hx.mono hm0.size) : DF _ (HL1.size + 1))
                          have df204 := (DF.new (bf_hy.mono hm0.size) : DF _ (HL1.size + 1))
                          have dj205 : Dj ko (HL1.size + 1) := Dj.new ow.le
                          have df206 := (DF.new (bf_pt99.mono hm0.size) : DF _ (HL1.size + 1))
                          have nx207 : Nx 0 H0.size (HL1.size + 1) := Nx.new hm0.size
                          have nx208 : Nx 0 H0.size (HL1.size + 1) := Nx.new hlm1.size
                          replace ha := ha.nw hs102
                          replace hb := hb.nw hs102
                          replace hx := fun x hx0 => (hx x hx0).nw hs102
                          replace hy := fun x hy0 => (hy x hy0).nw hs102
                          replace ow := ow.nw hs102
                          replace pt99 := pt99.nw hs102
                          replace hm0 := hm0.tr hs102
                          replace hlm1 := hlm1.tr hs102
                          have hz26 := hs102.size
                          refine LR.z (Z.apnd ow nw102.rd rfl inf28 rfl rfl (by simp; omega) (by simp; omega)) (Wd.u rfl) rfl rfl (fun v103 H103 r103 => ?_)
                          obtain ⟨k103, ow, hk103, hs103⟩ := r103
                          replace hk103 : Nx ko H102.size k103 := hk103
                          replace hs103 := hs103.md
                          have df209 := DF.app (df1) (bf_ha.mono hm0.size) hk103
                          have df210 := DF.app (df2) (bf_hb.mono hm0.size) hk103
                          have df211 := DF.app (df3) (bf_hx.mono hm0.size) hk103
                          have df212 := DF.app (df4) (bf_hy.mono hm0.size) hk103
                          have df213 := DF.app (df2) (bf_pt99.mono hm0.size) hk103
                          have dj214 : Dj (HL1.size + 1) k103 := Dj.app (dj205.symm) nw102.le hk103
                          have nx215 : Nx 0 H0.size k103 := Nx.tr (nx5) hk103 hm0.size
                          have nx216 : Nx 0 H0.size k103 := Nx.tr (nx6) hk103 hlm1.size
                          replace ha := ha.upL hs103 (DFL.cons df1 DFL.nil)
                          replace hb := hb.upL hs103 (DFL.cons df2 DFL.nil)
                          replace hx := fun x hx0 => (hx x hx0).upL hs103 (DFL.cons df3 DFL.nil)
                          replace hy := fun x hy0 => (hy x hy0).upL hs103 (DFL.cons df4 DFL.nil)
                          replace pt99 := pt99.upL hs103 (DFL.cons df2 DFL.nil)
                          replace nw102 := nw102.upL hs103 (DL.cons dj205.symm DL.nil)
                          replace hm0 := (Mo.trL (ks := []) (hm0.mdn []) hs103 (MIL.cons (MI.app MI.z (nx5) (Nat.le_refl _)) MIL.nil)).nil
                          replace hlm1 := (Mo.trL (ks := []) (hlm1.mdn []) hs103 (MIL.cons (MI.app MI.z (nx6) (Nat.le_refl _)) MIL.nil)).nil
                          have hz27 := hs103.size
                          have hle_ow := ow.le
                          refine LR.v (Y.assign rfl rfl) (Wd.u rfl) rfl rfl ?_
                          refine LR.nil ?_
                          refine hK35 _ _ ?_
                          refine CW.region ?_
                          refine LR.v (Y.move rfl rfl) (Wd.u rfl) rfl rfl ?_
                          refine LR.v (Y.addi rfl rfl rfl (by omega)) (Wd.u rfl) rfl rfl ?_
                          refine LR.v (Y.assign rfl rfl) (Wd.u rfl) rfl rfl ?_
                          refine LR.nil ?_
                          refine hK29 _ _ ?_
                          refine hK28 _ _ ?_
                          have hkl : k < b.length := by omega
                          refine QN.sub (hN6 (i, k + 1, v103, k103, out ++ [⟨zFl, b[k]⟩]) _ ?_ ?_) ⟨rfl, rfl, rfl, (iv (by omega)), (iv (by omega)), trivial⟩
                          · exact ⟨(by omega), (by omega), ow, by rw [← he, diff_b hkl (by first | exact .inl (by omega) | exact .inr ⟨by omega, by assumption, by assumption⟩)]; simp, (by simp; omega), nx216, hlm1⟩
                          · first | omega | (simp only; omega) | (simp; omega)
                        ·
                          refine CW.seq (fun K36 hK36 hE36 => ?_)
                          refine CW.seq (fun K37 hK37 hE37 => ?_)
                          refine CW.region_tail 8 rfl (by kernel_rfl) (fun T4 hT4 => ?_)
                          refine LR.v (Y.move rfl rfl) (Wd.u rfl) rfl rfl ?_
                          refine LR.v (Y.move rfl rfl) (Wd.u rfl) rfl rfl ?_
                          have hil : i < a.length := by omega
                          have hkl : k < b.length := by omega
                          refine LR.e (g := fun ad => .pointer (some ad)) (Y.indexAddrF ha (i) rfl Try.runUnderlying26 Try.sizeOf35 rfl rfl (by first | rfl | omega) (by first | omega | (simp; omega) | (simp; done))) (Wd.u rfl) rfl rfl (fun ad20 pt20 => ?_)
                          have bf_pt20 := bf_ha
                          refine LR.v (Y.loadN pt20.pt rfl Try.isAgg35 Try.sizeOf35 (rfl) rfl) (Wd.u rfl) rfl rfl ?_
                          refine LR.v (Y.move rfl rfl) (Wd.u rfl) rfl rfl ?_
                          refine LR.v (Y.move rfl rfl) (Wd.u rfl) rfl rfl ?_
                          refine LR.e (g := fun ad => .pointer (some ad)) (Y.indexAddrF hb (k) rfl Try.runUnderlying26 Try.sizeOf35 rfl rfl (by first | rfl | omega) (by first | omega | (simp; omega) | (simp; done))) (Wd.u rfl) rfl rfl (fun ad24 pt24 => ?_)
                          have bf_pt24 := bf_hb
                          refine LR.v (Y.loadN pt24.pt rfl Try.isAgg35 Try.sizeOf35 (rfl) rfl) (Wd.u rfl) rfl rfl ?_
                          refine LR.nil (hT4 _ ?_)
                          -- call selvage/selvageref15.Same
                          refine LR.call rfl Try.call28 rfl (Wd.u rfl) rfl rfl (samef_ct a[i] b[k] w0 _ (hx a[i] (List.getElem_mem hil)).d.any (hy b[k] (List.getElem_mem hkl)).d.any) (fun v26 H26 r26 => ?_)
                          obtain ⟨rfl, hs26⟩ := r26
                          replace ha := ha.nw hs26
                          replace hb := hb.nw hs26
                          replace hx := fun x hx0 => (hx x hx0).nw hs26
                          replace hy := fun x hy0 => (hy x hy0).nw hs26
                          replace ow := ow.nw hs26
                          replace pt20 := pt20.nw hs26
                          replace pt24 := pt24.nw hs26
                          replace hm0 := hm0.tr hs26
                          replace hlm1 := hlm1.tr hs26
                          have hz28 := hs26.size
                          refine LR.v (Y.not rfl rfl) (Wd.u rfl) rfl rfl ?_
                          refine LR.nil ?_
                          refine hK37 _ _ ?_
                          refine CW.cond rfl (fun c27 => ?_) (fun c27 => ?_)
                          ·
                            have hsm : ¬ sameF a[i] b[k] = true := by simpa using c27
                            refine CW.region_any (fun Hq => Mo (Ms [ko]) H26 Hq) [] rfl ?_
                            have hq5 : Mo (Ms [ko]) H26 H26 := Mo.refl _ _
                            have nx217 := Nx.refl ko H26.size
                            refine LH.take 0 (by kernel_rfl) rfl (by kernel_rfl) (by kernel_rfl) (by kernel_rfl) (fun Hq hq => Y.move rfl rfl) (Wd.u rfl) rfl rfl hq5 ?_
                            refine LH.take 1 (by kernel_rfl) rfl (by kernel_rfl) (by kernel_rfl) (by kernel_rfl) (fun Hq hq => Y.move rfl rfl) (Wd.u rfl) rfl rfl hq5 ?_
                            refine LH.take 2 (by kernel_rfl) rfl (by kernel_rfl) (by kernel_rfl) (by kernel_rfl) (fun Hq hq => Y.move rfl rfl) (Wd.u rfl) rfl rfl hq5 ?_
                            refine LH.e (g := fun ad => .pointer (some ad)) 3 (by kernel_rfl) rfl (by kernel_rfl) (by kernel_rfl) (by kernel_rfl) (Y.indexAddrF ha (i) rfl Try.runUnderlying26 Try.sizeOf35 rfl rfl (by first | rfl | omega) (by first | omega | (simp; omega) | (simp; done))) (Wd.u rfl) rfl rfl hq5 (fun ad31 pt31 => ?_)
                            have bf_pt31 := bf_ha
                            refine LH.take 4 (by kernel_rfl) rfl (by kernel_rfl) (by kernel_rfl) (by kernel_rfl) (fun Hq hq => Y.loadN (pt31.upL hq (DFL.cons df1 DFL.nil)).pt rfl Try.isAgg35 Try.sizeOf35 (rfl) rfl) (Wd.u rfl) rfl rfl hq5 ?_
                            refine LH.take 5 (by kernel_rfl) rfl (by kernel_rfl) (by kernel_rfl) (by kernel_rfl) (fun Hq hq => Y.move rfl rfl) (Wd.u rfl) rfl rfl hq5 ?_
                            refine LH.take 6 (by kernel_rfl) rfl (by kernel_rfl) (by kernel_rfl) (by kernel_rfl) (fun Hq hq => Y.move rfl rfl) (Wd.u rfl) rfl rfl hq5 ?_
                            refine LH.e (g := fun ad => .pointer (some ad)) 7 (by kernel_rfl) rfl (by kernel_rfl) (by kernel_rfl) (by kernel_rfl) (Y.indexAddrF hb (k) rfl Try.runUnderlying26 Try.sizeOf35 rfl rfl (by first | rfl | omega) (by first | omega | (simp; omega) | (simp; done))) (Wd.u rfl) rfl rfl hq5 (fun ad35 pt35 => ?_)
                            have bf_pt35 := bf_hb
                            refine LH.take 8 (by kernel_rfl) rfl (by kernel_rfl) (by kernel_rfl) (by kernel_rfl) (fun Hq hq => Y.loadN (pt35.upL hq (DFL.cons df2 DFL.nil)).pt rfl Try.isAgg35 Try.sizeOf35 (rfl) rfl) (Wd.u rfl) rfl rfl hq5 ?_
                            refine LH.take 9 (by kernel_rfl) rfl (by kernel_rfl) (by kernel_rfl) (by kernel_rfl) (fun Hq hq => Y.build (v := .agg (fCh ⟨a[i], b[k]⟩).toArray) rfl rfl (by intro w; kernel_rfl)) (Wd.u rfl) rfl rfl hq5 ?_
                            refine LH.one (i := 10) (by kernel_rfl) ?_
                            refine LO.z rfl (Z.litw _ ([(⟨a[i], b[k]⟩ : Ch)]) rfl inf28 rfl rfl rfl (by decide) (by decide) fCh_len fCh_one (rfl)) (Wd.u rfl) rfl rfl (fun v38 H38 r38 => ?_)
                            obtain ⟨nw38, hs38, ob38, hH38⟩ := r38
                            have hzs38 : H38.size = H26.size + 1 := by rw [hH38]; simp
                            have df218 := (DF.new (bf_ha.mono hm0.size) : DF _ (H26.size + 1))
                            have df219 := (DF.new (bf_hb.mono hm0.size) : DF _ (H26.size + 1))
                            have df220 := (DF.new (bf_hx.mono hm0.size) : DF _ (H26.size + 1))
                            have df221 := (DF.new (bf_hy.mono hm0.size) : DF _ (H26.size + 1))
                            have dj222 : Dj ko (H26.size + 1) := Dj.new ow.le
                            have df223 := (DF.new (bf_pt31.mono hm0.size) : DF _ (H26.size + 1))
                            have df224 := (DF.new (bf_pt35.mono hm0.size) : DF _ (H26.size + 1))
                            have nx225 : Nx 0 H0.size (H26.size + 1) := Nx.new hm0.size
                            have nx226 : Nx 0 H0.size (H26.size + 1) := Nx.new hlm1.size
                            have nx227 : Nx 0 H26.size (H26.size + 1) := Nx.new hq5.size
                            replace ha := ha.nw hs38
                            replace hb := hb.nw hs38
                            replace hx := fun x hx0 => (hx x hx0).nw hs38
                            replace hy := fun x hy0 => (hy x hy0).nw hs38
                            replace ow := ow.nw hs38
                            replace pt31 := pt31.nw hs38
                            replace pt35 := pt35.nw hs38
                            replace hm0 := hm0.tr hs38
                            replace hlm1 := hlm1.tr hs38
                            replace hq5 := hq5.trN hs38
                            have hz29 := hs38.size
                            refine ⟨.inr hq5, LH.narrow (SH2 := fun Hq => Mo (Ms [ko, (H26.size + 1)]) H38 Hq) (fun Hq hq => hq5.trL hq (MIL.cons (MI.app (MI.root (by simp)) (nx217) (Nat.le_refl _)) (MIL.cons (MI.app MI.z (nx227) (Nat.le_refl _)) MIL.nil))) ?_⟩
                            have hq5 : Mo (Ms [ko, (H26.size + 1)]) H38 H38 := Mo.refl _ _
                            have nx228 := Nx.refl ko H38.size
                            have nx229 := Nx.refl (H26.size + 1) H38.size
                            refine LH.one (i := 11) (by kernel_rfl) ?_
                            refine LO.z rfl (Z.apnd ow nw38.rd rfl inf28 rfl rfl (by simp; omega) (by simp; omega)) (Wd.u rfl) rfl rfl (fun v39 H39 r39 => ?_)
                            obtain ⟨k39, ow, hk39, hs39⟩ := r39
                            replace hk39 : Nx ko H38.size k39 := hk39
                            replace hs39 := hs39.md
                            have df230 := DF.app (df1) (bf_ha.mono hm0.size) hk39
                            have df231 := DF.app (df2) (bf_hb.mono hm0.size) hk39
                            have df232 := DF.app (df3) (bf_hx.mono hm0.size) hk39
                            have df233 := DF.app (df4) (bf_hy.mono hm0.size) hk39
                            have df234 := DF.app (df1) (bf_pt31.mono hm0.size) hk39
                            have df235 := DF.app (df2) (bf_pt35.mono hm0.size) hk39
                            have dj236 : Dj (H26.size + 1) k39 := Dj.app (dj222.symm) nw38.le hk39
                            have nx237 : Nx 0 H0.size k39 := Nx.tr (nx5) hk39 hm0.size
                            have nx238 : Nx 0 H0.size k39 := Nx.tr (nx6) hk39 hlm1.size
                            have nx239 : Nx ko H38.size k39 := Nx.tr (nx228) hk39 hq5.size
                            replace ha := ha.upL hs39 (DFL.cons df1 DFL.nil)
                            replace hb := hb.upL hs39 (DFL.cons df2 DFL.nil)
                            replace hx := fun x hx0 => (hx x hx0).upL hs39 (DFL.cons df3 DFL.nil)
                            replace hy := fun x hy0 => (hy x hy0).upL hs39 (DFL.cons df4 DFL.nil)
                            replace pt31 := pt31.upL hs39 (DFL.cons df1 DFL.nil)
                            replace pt35 := pt35.upL hs39 (DFL.cons df2 DFL.nil)
                            replace nw38 := nw38.upL hs39 (DL.cons dj222.symm DL.nil)
                            replace hm0 := (Mo.trL (ks := []) (hm0.mdn []) hs39 (MIL.cons (MI.app MI.z (nx5) (Nat.le_refl _)) MIL.nil)).nil
                            replace hlm1 := (Mo.trL (ks := []) (hlm1.mdn []) hs39 (MIL.cons (MI.app MI.z (nx6) (Nat.le_refl _)) MIL.nil)).nil
                            replace hq5 := hq5.trL hs39 (MIL.cons (MI.app (MI.root (by simp)) (nx228) (Nat.le_refl _)) MIL.nil)
                            have hz30 := hs39.size
                            have hle_ow := ow.le
                            refine ⟨.inr hq5, LH.narrow (SH2 := fun Hq => Mo (Ms [k39, (H26.size + 1)]) H39 Hq) (fun Hq hq => hq5.trL hq (MIL.cons (MI.app (MI.root (by simp)) (nx239) (Nat.le_refl _)) (MIL.cons (MI.app (MI.root (by simp)) (nx229) (Nat.le_refl _)) MIL.nil))) ?_⟩
                            have hq5 : Mo (Ms [k39, (H26.size + 1)]) H39 H39 := Mo.refl _ _
                            have nx240 := Nx.refl k39 H39.size
                            have nx241 := Nx.refl (H26.size + 1) H39.size
                            refine LH.take 12 (by kernel_rfl) rfl (by kernel_rfl) (by kernel_rfl) (by kernel_rfl) (fun Hq hq => Y.assign rfl rfl) (Wd.u rfl) rfl rfl hq5 ?_
                            refine LH.done (by kernel_rfl) ?_
                            refine hK36 _ _ ?_
                            refine CW.seq (fun K38 hK38 hE38 => ?_)
                            refine CW.region ?_
                            refine LR.v (Y.move rfl rfl) (Wd.u rfl) rfl rfl ?_
                            refine LR.v (Y.addi rfl rfl rfl (by omega)) (Wd.u rfl) rfl rfl ?_
                            refine LR.v (Y.assign rfl rfl) (Wd.u rfl) rfl rfl ?_
                            refine LR.nil ?_
                            refine hK38 _ _ ?_
                            refine CW.region ?_
                            refine LR.v (Y.move rfl rfl) (Wd.u rfl) rfl rfl ?_
                            refine LR.v (Y.addi rfl rfl rfl (by omega)) (Wd.u rfl) rfl rfl ?_
                            refine LR.v (Y.assign rfl rfl) (Wd.u rfl) rfl rfl ?_
                            refine LR.nil ?_
                            refine hK29 _ _ ?_
                            refine hK28 _ _ ?_
                            refine QN.sub (hN6 (i + 1, k + 1, v39, k39, out ++ [⟨a[i], b[k]⟩]) _ ?_ ?_) ⟨rfl, rfl, rfl, (iv (by omega)), (iv (by omega)), trivial⟩
                            · exact ⟨(by omega), (by omega), ow, by rw [← he, diff_c hil hkl (by assumption) (by assumption), if_neg hsm]; simp, (by simp; omega), nx238, hlm1⟩
                            · first | omega | (simp only; omega) | (simp; omega)
                          ·
                            have hsm : sameF a[i] b[k] = true := by simpa using c27
                            refine CW.skip ?_
                            refine hK36 _ _ ?_
                            refine CW.seq (fun K39 hK39 hE39 => ?_)
                            refine CW.region ?_
                            refine LR.v (Y.move rfl rfl) (Wd.u rfl) rfl rfl ?_
                            refine LR.v (Y.addi rfl rfl rfl (by omega)) (Wd.u rfl) rfl rfl ?_
                            refine LR.v (Y.assign rfl rfl) (Wd.u rfl) rfl rfl ?_
                            refine LR.nil ?_
                            refine hK39 _ _ ?_
                            refine CW.region ?_
                            refine LR.v (Y.move rfl rfl) (Wd.u rfl) rfl rfl ?_
                            refine LR.v (Y.addi rfl rfl rfl (by omega)) (Wd.u rfl) rfl rfl ?_
                            refine LR.v (Y.assign rfl rfl) (Wd.u rfl) rfl rfl ?_
                            refine LR.nil ?_
                            refine hK29 _ _ ?_
                            refine hK28 _ _ ?_
                            refine QN.sub (hN6 (i + 1, k + 1, vo, ko, out) _ ?_ ?_) ⟨rfl, rfl, rfl, (iv (by omega)), (iv (by omega)), trivial⟩
                            · exact ⟨(by omega), (by omega), ow, by rw [← he, diff_c hil hkl (by assumption) (by assumption), if_pos hsm], (by omega), nx6, hlm1⟩
                            · first | omega | (simp only; omega) | (simp; omega)
              ·
                first
                | exfalso; omega
                | skip
                  refine LR.gs rfl rfl rfl rfl rfl rfl ?_
                  refine LR.gs rfl rfl rfl rfl rfl rfl ?_
                  refine LR.gs rfl rfl rfl rfl rfl rfl ?_
                  refine LR.gs rfl rfl rfl rfl rfl rfl ?_
                  refine LR.gs rfl rfl rfl rfl rfl rfl ?_
                  refine LR.gs rfl rfl rfl rfl rfl rfl ?_
                  refine LR.gs rfl rfl rfl rfl rfl rfl ?_
                  refine LR.gs rfl rfl rfl rfl rfl rfl ?_
                  refine LR.gs rfl rfl rfl rfl rfl rfl ?_
                  refine LR.gs rfl rfl rfl rfl rfl rfl ?_
                  refine LR.gs rfl rfl rfl rfl rfl rfl ?_
                  refine LR.v (Y.pick_f rfl rfl rfl) (Wd.g rfl rfl rfl) rfl rfl ?_
                  refine LR.v (Y.pick_f rfl rfl rfl) (Wd.u rfl) rfl rfl ?_
                  refine LR.v (Y.assign rfl rfl) (Wd.u rfl) rfl rfl ?_
                  refine LR.nil ?_
                  refine hK30 _ _ ?_
                  refine CW.cond_f rfl ?_
                  refine CW.seq (fun K40 hK40 hE40 => ?_)
                  refine CW.region_draw rfl (by kernel_rfl) ?_
                  refine LR.v (Y.move rfl rfl) (Wd.u rfl) rfl rfl ?_
                  refine LR.v (Y.move rfl rfl) (Wd.u rfl) rfl rfl ?_
                  refine LR.v (Y.len ha rfl Try.runUnderlying26 rfl) (Wd.u rfl) rfl rfl ?_
                  refine LR.v (Y.geq rfl rfl rfl) (Wd.u rfl) rfl rfl ?_
                  refine LR.v (Y.move rfl rfl) (Wd.u rfl) rfl rfl ?_
                  refine LR.splitp (d := 83) rfl (fun g83 => ?_) (fun g83 => ?_)
                  ·
                    first
                    | exfalso; omega
                    | skip
                      refine LR.gs rfl rfl rfl rfl rfl rfl ?_
                      refine LR.gs rfl rfl rfl rfl rfl rfl ?_
                      refine LR.gs rfl rfl rfl rfl rfl rfl ?_
                      refine LR.gs rfl rfl rfl rfl rfl rfl ?_
                      refine LR.gs rfl rfl rfl rfl rfl rfl ?_
                      refine LR.gs rfl rfl rfl rfl rfl rfl ?_
                      refine LR.gs rfl rfl rfl rfl rfl rfl ?_
                      refine LR.gs rfl rfl rfl rfl rfl rfl ?_
                      refine LR.gs rfl rfl rfl rfl rfl rfl ?_
                      refine LR.gs rfl rfl rfl rfl rfl rfl ?_
                      refine LR.gs rfl rfl rfl rfl rfl rfl ?_
                      refine LR.v (Y.pick_t rfl rfl rfl) (Wd.u rfl) rfl rfl ?_
                      refine LR.v (Y.assign rfl rfl) (Wd.u rfl) rfl rfl ?_
                      refine LR.nil ?_
                      refine hK40 _ _ ?_
                      refine CW.cond_t rfl ?_
                      refine CW.seq (fun K41 hK41 hE41 => ?_)
                      refine CW.region ?_
                      refine LR.v (Y.move rfl rfl) (Wd.u rfl) rfl rfl ?_
                      refine LR.v (Y.move rfl rfl) (Wd.u rfl) rfl rfl ?_
                      refine LR.v (Y.move rfl rfl) (Wd.u rfl) rfl rfl ?_
                      have hkl0 : k < b.length := by omega
                      refine LR.e (g := fun ad => .pointer (some ad)) (Y.indexAddrF hb (k) rfl Try.runUnderlying26 Try.sizeOf35 rfl rfl (by first | rfl | omega) (by first | omega | (simp; omega) | (simp; done))) (Wd.u rfl) rfl rfl (fun ad99 pt99 => ?_)
                      have bf_pt99 := bf_hb
                      refine LR.v (Y.loadN pt99.pt rfl Try.isAgg35 Try.sizeOf35 (rfl) rfl) (Wd.u rfl) rfl rfl ?_
                      refine LR.v (Y.build (v := .agg (fCh ⟨zFl, b[k]⟩).toArray) rfl rfl (by intro w; kernel_rfl)) (Wd.u rfl) rfl rfl ?_
                      refine LR.z (Z.litw _ ([(⟨zFl, b[k]⟩ : Ch)]) rfl inf28 rfl rfl rfl (by decide) (by decide) fCh_len fCh_one (rfl)) (Wd.u rfl) rfl rfl (fun v102 H102 r102 => ?_)
                      obtain ⟨nw102, hs102, ob102, hH102⟩ := r102
                      have hzs102 : H102.size = HL1.size + 1 := by rw [hH102]; simp
                      have df242 := (DF.new (bf_ha.mono hm0.size) : DF _ (HL1.size + 1))
                      have df243 := (DF.new (bf_hb.mono hm0.size) : DF _ (HL1.size + 1))
                      have df244 := (DF.new (bf_hx.mono hm0.size) : DF _ (HL1.size + 1))
                      have df245 := (DF.new (bf_hy.mono hm0.size) : DF _ (HL1.size + 1))
                      have dj246 : Dj ko (HL1.size + 1) := Dj.new ow.le
                      have df247 := (DF.new (bf_pt99.mono hm0.size) : DF _ (HL1.size + 1))
                      have nx248 : Nx 0 H0.size (HL1.size + 1) := Nx.new hm0.size
                      have nx249 : Nx 0 H0.size (HL1.size + 1) := Nx.new hlm1.size
                      replace ha := ha.nw hs102
                      replace hb := hb.nw hs102
                      replace hx := fun x hx0 => (hx x hx0).nw hs102
                      replace hy := fun x hy0 => (hy x hy0).nw hs102
                      replace ow := ow.nw hs102
                      replace pt99 := pt99.nw hs102
                      replace hm0 := hm0.tr hs102
                      replace hlm1 := hlm1.tr hs102
                      have hz31 := hs102.size
                      refine LR.z (Z.apnd ow nw102.rd rfl inf28 rfl rfl (by simp; omega) (by simp; omega)) (Wd.u rfl) rfl rfl (fun v103 H103 r103 => ?_)
                      obtain ⟨k103, ow, hk103, hs103⟩ := r103
                      replace hk103 : Nx ko H102.size k103 := hk103
                      replace hs103 := hs103.md
                      have df250 := DF.app (df1) (bf_ha.mono hm0.size) hk103
                      have df251 := DF.app (df2) (bf_hb.mono hm0.size) hk103
                      have df252 := DF.app (df3) (bf_hx.mono hm0.size) hk103
                      have df253 := DF.app (df4) (bf_hy.mono hm0.size) hk103
                      have df254 := DF.app (df2) (bf_pt99.mono hm0.size) hk103
                      have dj255 : Dj (HL1.size + 1) k103 := Dj.app (dj246.symm) nw102.le hk103
                      have nx256 : Nx 0 H0.size k103 := Nx.tr (nx5) hk103 hm0.size
                      have nx257 : Nx 0 H0.size k103 := Nx.tr (nx6) hk103 hlm1.size
                      replace ha := ha.upL hs103 (DFL.cons df1 DFL.nil)
                      replace hb := hb.upL hs103 (DFL.cons df2 DFL.nil)
                      replace hx := fun x hx0 => (hx x hx0).upL hs103 (DFL.cons df3 DFL.nil)
                      replace hy := fun x hy0 => (hy x hy0).upL hs103 (DFL.cons df4 DFL.nil)
                      replace pt99 := pt99.upL hs103 (DFL.cons df2 DFL.nil)
                      replace nw102 := nw102.upL hs103 (DL.cons dj246.symm DL.nil)
                      replace hm0 := (Mo.trL (ks := []) (hm0.mdn []) hs103 (MIL.cons (MI.app MI.z (nx5) (Nat.le_refl _)) MIL.nil)).nil
                      replace hlm1 := (Mo.trL (ks := []) (hlm1.mdn []) hs103 (MIL.cons (MI.app MI.z (nx6) (Nat.le_refl _)) MIL.nil)).nil
                      have hz32 := hs103.size
                      have hle_ow := ow.le
                      refine LR.v (Y.assign rfl rfl) (Wd.u rfl) rfl rfl ?_
                      refine LR.nil ?_
                      refine hK41 _ _ ?_
                      refine CW.region ?_
                      refine LR.v (Y.move rfl rfl) (Wd.u rfl) rfl rfl ?_
                      refine LR.v (Y.addi rfl rfl rfl (by omega)) (Wd.u rfl) rfl rfl ?_
                      refine LR.v (Y.assign rfl rfl) (Wd.u rfl) rfl rfl ?_
                      refine LR.nil ?_
                      refine hK29 _ _ ?_
                      refine hK28 _ _ ?_
                      have hkl : k < b.length := by omega
                      refine QN.sub (hN6 (i, k + 1, v103, k103, out ++ [⟨zFl, b[k]⟩]) _ ?_ ?_) ⟨rfl, rfl, rfl, (iv (by omega)), (iv (by omega)), trivial⟩
                      · exact ⟨(by omega), (by omega), ow, by rw [← he, diff_b hkl (by first | exact .inl (by omega) | exact .inr ⟨by omega, by assumption, by assumption⟩)]; simp, (by simp; omega), nx257, hlm1⟩
                      · first | omega | (simp only; omega) | (simp; omega)
                  ·
                    first
                    | exfalso; omega
                    | skip
                      refine LR.v (Y.move rfl rfl) (Wd.g rfl rfl rfl) rfl rfl ?_
                      refine LR.v (Y.move rfl rfl) (Wd.g rfl rfl rfl) rfl rfl ?_
                      refine LR.e (g := fun ad => .pointer (some ad)) (Y.indexAddrF hb (k) rfl Try.runUnderlying26 Try.sizeOf35 rfl rfl (by first | rfl | omega) (by first | omega | (simp; omega) | (simp; done))) (Wd.g rfl rfl rfl) rfl rfl (fun ad86 pt86 => ?_)
                      have bf_pt86 := bf_hb
                      refine LR.v (Y.fieldAddr pt86.pt rfl Try.runUnderlying35 rfl rfl Try.sizeOf9 (by decide) rfl) (Wd.g rfl rfl rfl) rfl rfl ?_
                      refine LR.v (Y.load1 (pt86.pt.drop 0) rfl Try.isAgg9 rfl) (Wd.g rfl rfl rfl) rfl rfl ?_
                      refine LR.v (Y.move rfl rfl) (Wd.g rfl rfl rfl) rfl rfl ?_
                      refine LR.v (Y.move rfl rfl) (Wd.g rfl rfl rfl) rfl rfl ?_
                      refine LR.e (g := fun ad => .pointer (some ad)) (Y.indexAddrF ha (i) rfl Try.runUnderlying26 Try.sizeOf35 rfl rfl (by first | rfl | omega) (by first | omega | (simp; omega) | (simp; done))) (Wd.g rfl rfl rfl) rfl rfl (fun ad91 pt91 => ?_)
                      have bf_pt91 := bf_ha
                      refine LR.v (Y.fieldAddr pt91.pt rfl Try.runUnderlying35 rfl rfl Try.sizeOf9 (by decide) rfl) (Wd.g rfl rfl rfl) rfl rfl ?_
                      refine LR.v (Y.load1 (pt91.pt.drop 0) rfl Try.isAgg9 rfl) (Wd.g rfl rfl rfl) rfl rfl ?_
                      refine LR.v (Y.slss rfl rfl rfl) (Wd.g rfl rfl rfl) rfl rfl ?_
                      refine LR.v (Y.pick_f rfl rfl rfl) (Wd.u rfl) rfl rfl ?_
                      refine LR.v (Y.assign rfl rfl) (Wd.u rfl) rfl rfl ?_
                      refine LR.nil ?_
                      refine hK40 _ _ ?_
                      refine CW.cond rfl (fun c78 => ?_) (fun c78 => ?_)
                      ·
                        refine CW.seq (fun K42 hK42 hE42 => ?_)
                        refine CW.region ?_
                        refine LR.v (Y.move rfl rfl) (Wd.u rfl) rfl rfl ?_
                        refine LR.v (Y.move rfl rfl) (Wd.u rfl) rfl rfl ?_
                        refine LR.v (Y.move rfl rfl) (Wd.u rfl) rfl rfl ?_
                        have hkl0 : k < b.length := by omega
                        refine LR.e (g := fun ad => .pointer (some ad)) (Y.indexAddrF hb (k) rfl Try.runUnderlying26 Try.sizeOf35 rfl rfl (by first | rfl | omega) (by first | omega | (simp; omega) | (simp; done))) (Wd.u rfl) rfl rfl (fun ad99 pt99 => ?_)
                        have bf_pt99 := bf_hb
                        refine LR.v (Y.loadN pt99.pt rfl Try.isAgg35 Try.sizeOf35 (rfl) rfl) (Wd.u rfl) rfl rfl ?_
                        refine LR.v (Y.build (v := .agg (fCh ⟨zFl, b[k]⟩).toArray) rfl rfl (by intro w; kernel_rfl)) (Wd.u rfl) rfl rfl ?_
                        refine LR.z (Z.litw _ ([(⟨zFl, b[k]⟩ : Ch)]) rfl inf28 rfl rfl rfl (by decide) (by decide) fCh_len fCh_one (rfl)) (Wd.u rfl) rfl rfl (fun v102 H102 r102 => ?_)
                        obtain ⟨nw102, hs102, ob102, hH102⟩ := r102
                        have hzs102 : H102.size = HL1.size + 1 := by rw [hH102]; simp
                        have df258 := (DF.new (bf_ha.mono hm0.size) : DF _ (HL1.size + 1))
                        have df259 := (DF.new (bf_hb.mono hm0.size) : DF _ (HL1.size + 1))
                        have df260 := (DF.new (bf_hx.mono hm0.size) : DF _ (HL1.size + 1))
                        have df261 := (DF.new (bf_hy.mono hm0.size) : DF _ (HL1.size + 1))
                        have dj262 : Dj ko (HL1.size + 1) := Dj.new ow.le
                        have df263 := (DF.new (bf_pt99.mono hm0.size) : DF _ (HL1.size + 1))
                        have nx264 : Nx 0 H0.size (HL1.size + 1) := Nx.new hm0.size
                        have nx265 : Nx 0 H0.size (HL1.size + 1) := Nx.new hlm1.size
                        replace ha := ha.nw hs102
                        replace hb := hb.nw hs102
                        replace hx := fun x hx0 => (hx x hx0).nw hs102
                        replace hy := fun x hy0 => (hy x hy0).nw hs102
                        replace ow := ow.nw hs102
                        replace pt99 := pt99.nw hs102
                        replace hm0 := hm0.tr hs102
                        replace hlm1 := hlm1.tr hs102
                        have hz33 := hs102.size
                        refine LR.z (Z.apnd ow nw102.rd rfl inf28 rfl rfl (by simp; omega) (by simp; omega)) (Wd.u rfl) rfl rfl (fun v103 H103 r103 => ?_)
                        obtain ⟨k103, ow, hk103, hs103⟩ := r103
                        replace hk103 : Nx ko H102.size k103 := hk103
                        replace hs103 := hs103.md
                        have df266 := DF.app (df1) (bf_ha.mono hm0.size) hk103
                        have df267 := DF.app (df2) (bf_hb.mono hm0.size) hk103
                        have df268 := DF.app (df3) (bf_hx.mono hm0.size) hk103
                        have df269 := DF.app (df4) (bf_hy.mono hm0.size) hk103
                        have df270 := DF.app (df2) (bf_pt99.mono hm0.size) hk103
                        have dj271 : Dj (HL1.size + 1) k103 := Dj.app (dj262.symm) nw102.le hk103
                        have nx272 : Nx 0 H0.size k103 := Nx.tr (nx5) hk103 hm0.size
                        have nx273 : Nx 0 H0.size k103 := Nx.tr (nx6) hk103 hlm1.size
                        replace ha := ha.upL hs103 (DFL.cons df1 DFL.nil)
                        replace hb := hb.upL hs103 (DFL.cons df2 DFL.nil)
                        replace hx := fun x hx0 => (hx x hx0).upL hs103 (DFL.cons df3 DFL.nil)
                        replace hy := fun x hy0 => (hy x hy0).upL hs103 (DFL.cons df4 DFL.nil)
                        replace pt99 := pt99.upL hs103 (DFL.cons df2 DFL.nil)
                        replace nw102 := nw102.upL hs103 (DL.cons dj262.symm DL.nil)
                        replace hm0 := (Mo.trL (ks := []) (hm0.mdn []) hs103 (MIL.cons (MI.app MI.z (nx5) (Nat.le_refl _)) MIL.nil)).nil
                        replace hlm1 := (Mo.trL (ks := []) (hlm1.mdn []) hs103 (MIL.cons (MI.app MI.z (nx6) (Nat.le_refl _)) MIL.nil)).nil
                        have hz34 := hs103.size
                        have hle_ow := ow.le
                        refine LR.v (Y.assign rfl rfl) (Wd.u rfl) rfl rfl ?_
                        refine LR.nil ?_
                        refine hK42 _ _ ?_
                        refine CW.region ?_
                        refine LR.v (Y.move rfl rfl) (Wd.u rfl) rfl rfl ?_
                        refine LR.v (Y.addi rfl rfl rfl (by omega)) (Wd.u rfl) rfl rfl ?_
                        refine LR.v (Y.assign rfl rfl) (Wd.u rfl) rfl rfl ?_
                        refine LR.nil ?_
                        refine hK29 _ _ ?_
                        refine hK28 _ _ ?_
                        have hkl : k < b.length := by omega
                        refine QN.sub (hN6 (i, k + 1, v103, k103, out ++ [⟨zFl, b[k]⟩]) _ ?_ ?_) ⟨rfl, rfl, rfl, (iv (by omega)), (iv (by omega)), trivial⟩
                        · exact ⟨(by omega), (by omega), ow, by rw [← he, diff_b hkl (by first | exact .inl (by omega) | exact .inr ⟨by omega, by assumption, by assumption⟩)]; simp, (by simp; omega), nx273, hlm1⟩
                        · first | omega | (simp only; omega) | (simp; omega)
                      ·
                        refine CW.seq (fun K43 hK43 hE43 => ?_)
                        refine CW.seq (fun K44 hK44 hE44 => ?_)
                        refine CW.region_tail 8 rfl (by kernel_rfl) (fun T4 hT4 => ?_)
                        refine LR.v (Y.move rfl rfl) (Wd.u rfl) rfl rfl ?_
                        refine LR.v (Y.move rfl rfl) (Wd.u rfl) rfl rfl ?_
                        have hil : i < a.length := by omega
                        have hkl : k < b.length := by omega
                        refine LR.e (g := fun ad => .pointer (some ad)) (Y.indexAddrF ha (i) rfl Try.runUnderlying26 Try.sizeOf35 rfl rfl (by first | rfl | omega) (by first | omega | (simp; omega) | (simp; done))) (Wd.u rfl) rfl rfl (fun ad20 pt20 => ?_)
                        have bf_pt20 := bf_ha
                        refine LR.v (Y.loadN pt20.pt rfl Try.isAgg35 Try.sizeOf35 (rfl) rfl) (Wd.u rfl) rfl rfl ?_
                        refine LR.v (Y.move rfl rfl) (Wd.u rfl) rfl rfl ?_
                        refine LR.v (Y.move rfl rfl) (Wd.u rfl) rfl rfl ?_
                        refine LR.e (g := fun ad => .pointer (some ad)) (Y.indexAddrF hb (k) rfl Try.runUnderlying26 Try.sizeOf35 rfl rfl (by first | rfl | omega) (by first | omega | (simp; omega) | (simp; done))) (Wd.u rfl) rfl rfl (fun ad24 pt24 => ?_)
                        have bf_pt24 := bf_hb
                        refine LR.v (Y.loadN pt24.pt rfl Try.isAgg35 Try.sizeOf35 (rfl) rfl) (Wd.u rfl) rfl rfl ?_
                        refine LR.nil (hT4 _ ?_)
                        -- call selvage/selvageref15.Same
                        refine LR.call rfl Try.call28 rfl (Wd.u rfl) rfl rfl (samef_ct a[i] b[k] w0 _ (hx a[i] (List.getElem_mem hil)).d.any (hy b[k] (List.getElem_mem hkl)).d.any) (fun v26 H26 r26 => ?_)
                        obtain ⟨rfl, hs26⟩ := r26
                        replace ha := ha.nw hs26
                        replace hb := hb.nw hs26
                        replace hx := fun x hx0 => (hx x hx0).nw hs26
                        replace hy := fun x hy0 => (hy x hy0).nw hs26
                        replace ow := ow.nw hs26
                        replace pt20 := pt20.nw hs26
                        replace pt24 := pt24.nw hs26
                        replace hm0 := hm0.tr hs26
                        replace hlm1 := hlm1.tr hs26
                        have hz35 := hs26.size
                        refine LR.v (Y.not rfl rfl) (Wd.u rfl) rfl rfl ?_
                        refine LR.nil ?_
                        refine hK44 _ _ ?_
                        refine CW.cond rfl (fun c27 => ?_) (fun c27 => ?_)
                        ·
                          have hsm : ¬ sameF a[i] b[k] = true := by simpa using c27
                          refine CW.region_any (fun Hq => Mo (Ms [ko]) H26 Hq) [] rfl ?_
                          have hq5 : Mo (Ms [ko]) H26 H26 := Mo.refl _ _
                          have nx274 := Nx.refl ko H26.size
                          refine LH.take 0 (by kernel_rfl) rfl (by kernel_rfl) (by kernel_rfl) (by kernel_rfl) (fun Hq hq => Y.move rfl rfl) (Wd.u rfl) rfl rfl hq5 ?_
                          refine LH.take 1 (by kernel_rfl) rfl (by kernel_rfl) (by kernel_rfl) (by kernel_rfl) (fun Hq hq => Y.move rfl rfl) (Wd.u rfl) rfl rfl hq5 ?_
                          refine LH.take 2 (by kernel_rfl) rfl (by kernel_rfl) (by kernel_rfl) (by kernel_rfl) (fun Hq hq => Y.move rfl rfl) (Wd.u rfl) rfl rfl hq5 ?_
                          refine LH.e (g := fun ad => .pointer (some ad)) 3 (by kernel_rfl) rfl (by kernel_rfl) (by kernel_rfl) (by kernel_rfl) (Y.indexAddrF ha (i) rfl Try.runUnderlying26 Try.sizeOf35 rfl rfl (by first | rfl | omega) (by first | omega | (simp; omega) | (simp; done))) (Wd.u rfl) rfl rfl hq5 (fun ad31 pt31 => ?_)
                          have bf_pt31 := bf_ha
                          refine LH.take 4 (by kernel_rfl) rfl (by kernel_rfl) (by kernel_rfl) (by kernel_rfl) (fun Hq hq => Y.loadN (pt31.upL hq (DFL.cons df1 DFL.nil)).pt rfl Try.isAgg35 Try.sizeOf35 (rfl) rfl) (Wd.u rfl) rfl rfl hq5 ?_
                          refine LH.take 5 (by kernel_rfl) rfl (by kernel_rfl) (by kernel_rfl) (by kernel_rfl) (fun Hq hq => Y.move rfl rfl) (Wd.u rfl) rfl rfl hq5 ?_
                          refine LH.take 6 (by kernel_rfl) rfl (by kernel_rfl) (by kernel_rfl) (by kernel_rfl) (fun Hq hq => Y.move rfl rfl) (Wd.u rfl) rfl rfl hq5 ?_
                          refine LH.e (g := fun ad => .pointer (some ad)) 7 (by kernel_rfl) rfl (by kernel_rfl) (by kernel_rfl) (by kernel_rfl) (Y.indexAddrF hb (k) rfl Try.runUnderlying26 Try.sizeOf35 rfl rfl (by first | rfl | omega) (by first | omega | (simp; omega) | (simp; done))) (Wd.u rfl) rfl rfl hq5 (fun ad35 pt35 => ?_)
                          have bf_pt35 := bf_hb
                          refine LH.take 8 (by kernel_rfl) rfl (by kernel_rfl) (by kernel_rfl) (by kernel_rfl) (fun Hq hq => Y.loadN (pt35.upL hq (DFL.cons df2 DFL.nil)).pt rfl Try.isAgg35 Try.sizeOf35 (rfl) rfl) (Wd.u rfl) rfl rfl hq5 ?_
                          refine LH.take 9 (by kernel_rfl) rfl (by kernel_rfl) (by kernel_rfl) (by kernel_rfl) (fun Hq hq => Y.build (v := .agg (fCh ⟨a[i], b[k]⟩).toArray) rfl rfl (by intro w; kernel_rfl)) (Wd.u rfl) rfl rfl hq5 ?_
                          refine LH.one (i := 10) (by kernel_rfl) ?_
                          refine LO.z rfl (Z.litw _ ([(⟨a[i], b[k]⟩ : Ch)]) rfl inf28 rfl rfl rfl (by decide) (by decide) fCh_len fCh_one (rfl)) (Wd.u rfl) rfl rfl (fun v38 H38 r38 => ?_)
                          obtain ⟨nw38, hs38, ob38, hH38⟩ := r38
                          have hzs38 : H38.size = H26.size + 1 := by rw [hH38]; simp
                          have df275 := (DF.new (bf_ha.mono hm0.size) : DF _ (H26.size + 1))
                          have df276 := (DF.new (bf_hb.mono hm0.size) : DF _ (H26.size + 1))
                          have df277 := (DF.new (bf_hx.mono hm0.size) : DF _ (H26.size + 1))
                          have df278 := (DF.new (bf_hy.mono hm0.size) : DF _ (H26.size + 1))
                          have dj279 : Dj ko (H26.size + 1) := Dj.new ow.le
                          have df280 := (DF.new (bf_pt31.mono hm0.size) : DF _ (H26.size + 1))
                          have df281 := (DF.new (bf_pt35.mono hm0.size) : DF _ (H26.size + 1))
                          have nx282 : Nx 0 H0.size (H26.size + 1) := Nx.new hm0.size
                          have nx283 : Nx 0 H0.size (H26.size + 1) := Nx.new hlm1.size
                          have nx284 : Nx 0 H26.size (H26.size + 1) := Nx.new hq5.size
                          replace ha := ha.nw hs38
                          replace hb := hb.nw hs38
                          replace hx := fun x hx0 => (hx x hx0).nw hs38
                          replace hy := fun x hy0 => (hy x hy0).nw hs38
                          replace ow := ow.nw hs38
                          replace pt31 := pt31.nw hs38
                          replace pt35 := pt35.nw hs38
                          replace hm0 := hm0.tr hs38
                          replace hlm1 := hlm1.tr hs38
                          replace hq5 := hq5.trN hs38
                          have hz36 := hs38.size
                          refine ⟨.inr hq5, LH.narrow (SH2 := fun Hq => Mo (Ms [ko, (H26.size + 1)]) H38 Hq) (fun Hq hq => hq5.trL hq (MIL.cons (MI.app (MI.root (by simp)) (nx274) (Nat.le_refl _)) (MIL.cons (MI.app MI.z (nx284) (Nat.le_refl _)) MIL.nil))) ?_⟩
                          have hq5 : Mo (Ms [ko, (H26.size + 1)]) H38 H38 := Mo.refl _ _
                          have nx285 := Nx.refl ko H38.size
                          have nx286 := Nx.refl (H26.size + 1) H38.size
                          refine LH.one (i := 11) (by kernel_rfl) ?_
                          refine LO.z rfl (Z.apnd ow nw38.rd rfl inf28 rfl rfl (by simp; omega) (by simp; omega)) (Wd.u rfl) rfl rfl (fun v39 H39 r39 => ?_)
                          obtain ⟨k39, ow, hk39, hs39⟩ := r39
                          replace hk39 : Nx ko H38.size k39 := hk39
                          replace hs39 := hs39.md
                          have df287 := DF.app (df1) (bf_ha.mono hm0.size) hk39
                          have df288 := DF.app (df2) (bf_hb.mono hm0.size) hk39
                          have df289 := DF.app (df3) (bf_hx.mono hm0.size) hk39
                          have df290 := DF.app (df4) (bf_hy.mono hm0.size) hk39
                          have df291 := DF.app (df1) (bf_pt31.mono hm0.size) hk39
                          have df292 := DF.app (df2) (bf_pt35.mono hm0.size) hk39
                          have dj293 : Dj (H26.size + 1) k39 := Dj.app (dj279.symm) nw38.le hk39
                          have nx294 : Nx 0 H0.size k39 := Nx.tr (nx5) hk39 hm0.size
                          have nx295 : Nx 0 H0.size k39 := Nx.tr (nx6) hk39 hlm1.size
                          have nx296 : Nx ko H38.size k39 := Nx.tr (nx285) hk39 hq5.size
                          replace ha := ha.upL hs39 (DFL.cons df1 DFL.nil)
                          replace hb := hb.upL hs39 (DFL.cons df2 DFL.nil)
                          replace hx := fun x hx0 => (hx x hx0).upL hs39 (DFL.cons df3 DFL.nil)
                          replace hy := fun x hy0 => (hy x hy0).upL hs39 (DFL.cons df4 DFL.nil)
                          replace pt31 := pt31.upL hs39 (DFL.cons df1 DFL.nil)
                          replace pt35 := pt35.upL hs39 (DFL.cons df2 DFL.nil)
                          replace nw38 := nw38.upL hs39 (DL.cons dj279.symm DL.nil)
                          replace hm0 := (Mo.trL (ks := []) (hm0.mdn []) hs39 (MIL.cons (MI.app MI.z (nx5) (Nat.le_refl _)) MIL.nil)).nil
                          replace hlm1 := (Mo.trL (ks := []) (hlm1.mdn []) hs39 (MIL.cons (MI.app MI.z (nx6) (Nat.le_refl _)) MIL.nil)).nil
                          replace hq5 := hq5.trL hs39 (MIL.cons (MI.app (MI.root (by simp)) (nx285) (Nat.le_refl _)) MIL.nil)
                          have hz37 := hs39.size
                          have hle_ow := ow.le
                          refine ⟨.inr hq5, LH.narrow (SH2 := fun Hq => Mo (Ms [k39, (H26.size + 1)]) H39 Hq) (fun Hq hq => hq5.trL hq (MIL.cons (MI.app (MI.root (by simp)) (nx296) (Nat.le_refl _)) (MIL.cons (MI.app (MI.root (by simp)) (nx286) (Nat.le_refl _)) MIL.nil))) ?_⟩
                          have hq5 : Mo (Ms [k39, (H26.size + 1)]) H39 H39 := Mo.refl _ _
                          have nx297 := Nx.refl k39 H39.size
                          have nx298 := Nx.refl (H26.size + 1) H39.size
                          refine LH.take 12 (by kernel_rfl) rfl (by kernel_rfl) (by kernel_rfl) (by kernel_rfl) (fun Hq hq => Y.assign rfl rfl) (Wd.u rfl) rfl rfl hq5 ?_
                          refine LH.done (by kernel_rfl) ?_
                          refine hK43 _ _ ?_
                          refine CW.seq (fun K45 hK45 hE45 => ?_)
                          refine CW.region ?_
                          refine LR.v (Y.move rfl rfl) (Wd.u rfl) rfl rfl ?_
                          refine LR.v (Y.addi rfl rfl rfl (by omega)) (Wd.u rfl) rfl rfl ?_
                          refine LR.v (Y.assign rfl rfl) (Wd.u rfl) rfl rfl ?_
                          refine LR.nil ?_
                          refine hK45 _ _ ?_
                          refine CW.region ?_
                          refine LR.v (Y.move rfl rfl) (Wd.u rfl) rfl rfl ?_
                          refine LR.v (Y.addi rfl rfl rfl (by omega)) (Wd.u rfl) rfl rfl ?_
                          refine LR.v (Y.assign rfl rfl) (Wd.u rfl) rfl rfl ?_
                          refine LR.nil ?_
                          refine hK29 _ _ ?_
                          refine hK28 _ _ ?_
                          refine QN.sub (hN6 (i + 1, k + 1, v39, k39, out ++ [⟨a[i], b[k]⟩]) _ ?_ ?_) ⟨rfl, rfl, rfl, (iv (by omega)), (iv (by omega)), trivial⟩
                          · exact ⟨(by omega), (by omega), ow, by rw [← he, diff_c hil hkl (by assumption) (by assumption), if_neg hsm]; simp, (by simp; omega), nx295, hlm1⟩
                          · first | omega | (simp only; omega) | (simp; omega)
                        ·
                          have hsm : sameF a[i] b[k] = true := by simpa using c27
                          refine CW.skip ?_
                          refine hK43 _ _ ?_
                          refine CW.seq (fun K46 hK46 hE46 => ?_)
                          refine CW.region ?_
                          refine LR.v (Y.move rfl rfl) (Wd.u rfl) rfl rfl ?_
                          refine LR.v (Y.addi rfl rfl rfl (by omega)) (Wd.u rfl) rfl rfl ?_
                          refine LR.v (Y.assign rfl rfl) (Wd.u rfl) rfl rfl ?_
                          refine LR.nil ?_
                          refine hK46 _ _ ?_
                          refine CW.region ?_
                          refine LR.v (Y.move rfl rfl) (Wd.u rfl) rfl rfl ?_
                          refine LR.v (Y.addi rfl rfl rfl (by omega)) (Wd.u rfl) rfl rfl ?_
                          refine LR.v (Y.assign rfl rfl) (Wd.u rfl) rfl rfl ?_
                          refine LR.nil ?_
                          refine hK29 _ _ ?_
                          refine hK28 _ _ ?_
                          refine QN.sub (hN6 (i + 1, k + 1, vo, ko, out) _ ?_ ?_) ⟨rfl, rfl, rfl, (iv (by omega)), (iv (by omega)), trivial⟩
                          · exact ⟨(by omega), (by omega), ow, by rw [← he, diff_c hil hkl (by assumption) (by assumption), if_pos hsm], (by omega), nx6, hlm1⟩
                          · first | omega | (simp only; omega) | (simp; omega)
      ·
        first
        | exfalso; omega
        | skip
          refine CW.exit (hE7 (.exit 0) nofun _ _ (hE6 (.exit 0) nofun _ _ (hX5 _ _ ?_)))
          refine hK4 _ _ ?_
          refine CW.seq (fun K47 hK47 hE47 => ?_)
          refine CW.region ?_
          refine LR.v (Y.move rfl rfl) (Wd.u rfl) rfl rfl ?_
          refine LR.v (Y.assign rfl rfl) (Wd.u rfl) rfl rfl ?_
          refine LR.nil ?_
          refine hK47 _ _ ?_
          refine CW.ret (hret .ret (.inr rfl) _ _ _ (res1 rfl rfl) ?_)
          rw [diff_end (by omega) (by omega), List.append_nil] at he
          exact ⟨vo, ko, rfl, by rw [← he]; exact ow, nx5, by rw [← he]; omega, hm0⟩

end Go.Proofs.Ytclhnkmkejijjaa.RenH
