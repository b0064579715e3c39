/-
  Commits' names: their order, rows of them that are one's own.
-/
import Derived.Test.YtepdhokpfecdnaaRows
import Derived.Test.YtepdhokpfecdnaaMr
import Derived.Test.YtepdhokpfecdnaaWord
import Derived.Test.YtepdhokpfecdnaaCmp
import Derived.Test.YtepdhokpfecdnaaExt
import Derived.Test.YtepdhokpfecdnaaSrt
import Derived.Test.YtepdhokpfecdnaaSort
namespace Go.Proofs.Ytepdhokpfecdnaa.GraA
open Go.Proofs.Ytepdhokpfecdnaa.E Go.RowKit
set_option maxRecDepth 20000
set_option linter.unusedVariables false
set_option linter.unusedSimpArgs false
set_option linter.unusedSectionVars false
set_option maxRecDepth 100000 in
theorem inf28 : Inf Try.prog 28 30 32 32 := ⟨Try.underlying28, _, _, rfl, rfl, rfl, rfl, rfl⟩

open Go.Sort
theorem keyId : KeyA Try.prog 30 vA := keyI Try.underlying30 Try.underlying5 Try.sizeOf5 Try.isAgg5
theorem bl_refl : ∀ a : List UInt8, Op.bytesLess a a = false
  | [] => rfl
  | x :: a => by simp [Op.bytesLess, bl_refl a]
theorem bl_total : ∀ a b : List UInt8, Op.bytesLess a b = false → Op.bytesLess b a = false → a = b
  | [], [], _, _ => rfl
  | [], _ :: _, h, _ => by simp [Op.bytesLess] at h
  | _ :: _, [], _, h => by simp [Op.bytesLess] at h
  | x :: a, y :: b, h1, h2 => by
    simp only [Op.bytesLess] at h1 h2
    by_cases e1 : x < y
    · simp [e1] at h1
    · by_cases e2 : y < x
      · simp [e2] at h2
      · have : x = y := by apply UInt8.toNat.inj; rw [UInt8.lt_iff_toNat_lt] at e1 e2; omega
        subst this
        rw [bl_total a b (by simpa using h1) (by simpa using h2)]
theorem bl_trans : ∀ {a b c : List UInt8}, Op.bytesLess a b = true → Op.bytesLess b c = true → Op.bytesLess a c = true
  | [], [], _, h, _ => by simp [Op.bytesLess] at h
  | _ :: _, [], _, h, _ => by simp [Op.bytesLess] at h
  | _, _ :: _, [], _, h => by simp [Op.bytesLess] at h
  | [], _ :: _, _ :: _, _, _ => by simp [Op.bytesLess]
  | x :: a, y :: b, z :: c, h1, h2 => by
    simp only [Op.bytesLess, Bool.or_eq_true, decide_eq_true_eq, Bool.and_eq_true, beq_iff_eq] at h1 h2 ⊢
    rcases h1 with h1 | ⟨rfl, h1⟩
    · rcases h2 with h2 | ⟨rfl, h2⟩
      · left; rw [UInt8.lt_iff_toNat_lt] at *; omega
      · exact .inl h1
    · rcases h2 with h2 | ⟨rfl, h2⟩
      · exact .inl h2
      · exact .inr ⟨rfl, bl_trans h1 h2⟩
/-- a comparison is an order -/
structure CO {α : Type} (c : α → α → Int) : Prop where
  sw : ∀ x y, c x y < 0 ↔ 0 < c y x
  tr : ∀ x y z, c x y ≤ 0 → c y z ≤ 0 → c x z ≤ 0
section
variable {α β : Type} {c d : α → α → Int}
theorem CO.z (h : CO c) {x y : α} : c x y = 0 ↔ c y x = 0 := by have h1 := h.sw x y; have h2 := h.sw y x; omega
theorem CO.tr0 (h : CO c) {x y z : α} (h1 : c x y ≤ 0) (h2 : c y z ≤ 0) (h3 : c x z = 0) : c x y = 0 ∧ c y z = 0 := by
  have a1 := h.tr z x y (by have := h.z.1 h3; omega) h1
  have a2 := h.tr y z x h2 (by have := h.z.1 h3; omega)
  have b1 := h.sw z y; have b2 := h.sw y z; have b3 := h.sw x y; have b4 := h.sw y x
  omega
theorem CO.on (h : CO c) (g : β → α) : CO (fun x y => c (g x) (g y)) := ⟨fun x y => h.sw _ _, fun x y z => h.tr _ _ _⟩
theorem CO.swo (h : CO c) : Sort.SWO (ltOf c) := by
  refine ⟨fun x => ?_, fun x y z h1 h2 => ?_, fun x y z h1 h2 => ?_⟩
  · have := h.sw x x
    simp only [ltOf, decide_eq_false_iff_not]; omega
  · simp only [ltOf, decide_eq_true_eq] at *
    have a := h.tr x y z (by omega) (by omega)
    have b := h.tr0 (x := x) (y := y) (z := z) (by omega) (by omega)
    omega
  · simp only [ltOf, decide_eq_false_iff_not] at *
    have a := h.tr z y x; have b1 := h.sw x y; have b2 := h.sw y z; have b3 := h.sw x z
    have c1 := h.sw y x; have c2 := h.sw z y
    omega
end


theorem cb_eq : ∀ a b : List UInt8, Lib.compareBytes a b = if Op.bytesLess a b = true then -1 else if Op.bytesLess b a = true then 1 else 0
  | [], [] => rfl
  | [], _ :: _ => by simp [Lib.compareBytes, Op.bytesLess]
  | _ :: _, [] => by simp [Lib.compareBytes, Op.bytesLess]
  | x :: a, y :: b => by
    simp only [Lib.compareBytes, Op.bytesLess]
    by_cases h1 : x < y
    · simp [h1]
    · by_cases h2 : y < x
      · have : ¬ x = y := fun e => by subst e; exact h1 h2
        simp [h1, h2, this]
      · have e : x = y := by apply UInt8.toNat.inj; rw [UInt8.lt_iff_toNat_lt] at h1 h2; omega
        subst e
        simp [h1, cb_eq a b]
/-- the order of names -/
def cA (x y : Ide) : Int := Lib.compareBytes x.1 y.1
/-- one name is ahead of another -/
def ltA (x y : Ide) : Prop := Op.bytesLess x.1 y.1 = true
instance (x y : Ide) : Decidable (ltA x y) := inferInstanceAs (Decidable (_ = _))
theorem ltA_irr (x : Ide) : ¬ ltA x x := by unfold ltA; rw [bl_refl]; simp
theorem ltA_tr {x y z : Ide} (h : ltA x y) (h2 : ltA y z) : ltA x z := bl_trans h h2
theorem ltA_tot {x y : Ide} (h : ¬ ltA x y) (h2 : ¬ ltA y x) : x = y := Subtype.ext (bl_total _ _ (by simpa [ltA] using h) (by simpa [ltA] using h2))
theorem ltA_asym {x y : Ide} (h : ltA x y) : ¬ ltA y x := fun h2 => ltA_irr x (ltA_tr h h2)
theorem cA_neg {x y : Ide} : cA x y < 0 ↔ ltA x y := by
  unfold cA ltA; rw [cb_eq]
  split
  · rename_i h; simp [h]
  · rename_i h; split <;> simp [h]
theorem cA_pos {x y : Ide} : 0 < cA x y ↔ ltA y x := by
  unfold cA; rw [cb_eq]
  split
  · rename_i h
    have : ¬ ltA y x := ltA_asym h
    simp [this]
  · rename_i h; unfold ltA; split <;> (rename_i h2; simp [h2])
theorem cA_z {x y : Ide} : cA x y = 0 ↔ x = y := by
  constructor
  · intro h
    exact ltA_tot (fun q => by have := cA_neg.2 q; omega) (fun q => by have := cA_pos.2 q; omega)
  · rintro rfl
    have h1 : ¬ cA x x < 0 := fun h => ltA_irr x (cA_neg.1 h)
    have h2 : ¬ 0 < cA x x := fun h => ltA_irr x (cA_pos.1 h)
    omega
theorem cA_co : CO cA := by
  refine ⟨fun x y => by rw [cA_neg, cA_pos], fun x y z h1 h2 => ?_⟩
  by_cases e1 : cA x y = 0
  · rw [cA_z.1 e1]; exact h2
  · by_cases e2 : cA y z = 0
    · rw [← cA_z.1 e2]; exact h1
    · have := cA_neg.2 (ltA_tr (cA_neg.1 (show cA x y < 0 by omega)) (cA_neg.1 (show cA y z < 0 by omega)))
      omega
/-- names that rise -/
def Ris (l : List Ide) : Prop := l.Pairwise ltA
theorem ris_nodup {l : List Ide} (h : Ris l) : l.Nodup := by
  rw [List.nodup_iff_pairwise_ne]
  exact List.Pairwise.imp (fun {x y} (h : ltA x y) (e : x = y) => ltA_irr x (by subst e; exact h)) h
/-- two rows that rise, of the same names, are one -/
theorem ris_ext : ∀ {a b : List Ide}, Ris a → Ris b → (∀ x, x ∈ a ↔ x ∈ b) → a = b
  | [], [], _, _, _ => rfl
  | [], y :: b, _, _, h => by have := (h y).2 List.mem_cons_self; cases this
  | x :: a, [], _, _, h => by have := (h x).1 List.mem_cons_self; cases this
  | x :: a, y :: b, ha, hb, h => by
    unfold Ris at ha hb
    rw [List.pairwise_cons] at ha hb
    have hxy : x = y := by
      rcases List.mem_cons.1 ((h x).1 List.mem_cons_self) with e | e
      · exact e
      · rcases List.mem_cons.1 ((h y).2 List.mem_cons_self) with e2 | e2
        · exact e2.symm
        · exact absurd (hb.1 x e) (ltA_asym (ha.1 y e2))
    subst hxy
    congr 1
    refine ris_ext ha.2 hb.2 (fun z => ?_)
    have h1 := h z
    simp only [List.mem_cons] at h1
    constructor
    · intro hz
      rcases h1.1 (.inr hz) with e | e
      · subst e; exact absurd (ha.1 z hz) (ltA_irr z)
      · exact e
    · intro hz
      rcases h1.2 (.inr hz) with e | e
      · subst e; exact absurd (hb.1 z hz) (ltA_irr z)
      · exact e

theorem cmp_ct (u v : Value) (a b : List UInt8) (w0 : World) (H0 : Heap)
    (ha : RdT H0 fB 1 u a) (hb : RdT H0 fB 1 v b) :
    Ct Try.prog w0 43 #[u, v] H0 (fun r H2 => r = .int .i64 (Lib.compareBytes a b) ∧ Nw H0 H2) := by
  refine Ct.enter (args := [u, v]) Try.func43 rfl rfl rfl ?_
  intro Q0 hret
  have hm0 : Nw H0 H0 := Mo.refl _ _
  replace ha := ha.bnd
  have bf_ha := ha.bf
  replace hb := hb.bnd
  have bf_hb := hb.bf
  refine CW.seq (fun K1 hK1 hE1 => ?_)
  refine CW.region ?_
  refine LR.v (Y.assign rfl rfl) (Wd.u rfl) rfl rfl ?_
  refine LR.nil ?_
  refine hK1 _ _ ?_
  refine CW.seq (fun K2 hK2 hE2 => ?_)
  refine CW.region ?_
  refine LR.v (Y.move rfl rfl) (Wd.u rfl) rfl rfl ?_
  refine LR.v (Y.move rfl rfl) (Wd.u rfl) rfl rfl ?_
  refine LR.v (Y.compare ha hb rfl Try.func52 (by kernel_rfl) (by kernel_rfl) (by kernel_rfl) (by kernel_rfl) rfl) (Wd.u rfl) rfl rfl ?_
  refine LR.v (Y.assign rfl rfl) (Wd.u rfl) rfl rfl ?_
  refine LR.nil ?_
  refine hK2 _ _ ?_
  refine CW.ret (hret .ret (.inr rfl) _ _ _ (res1 rfl rfl) ?_)
  exact ⟨rfl, hm0⟩

theorem acmp_ct (a b : Ide) (w0 : World) (H0 : Heap)
     :
    Ct Try.prog w0 32 #[vA a, vA b] H0 (fun r H2 => r = .int .i64 (cA a b) ∧ Nw H0 H2) := by
  refine Ct.enter (args := [vA a, vA b]) Try.func32 rfl rfl rfl ?_
  intro Q0 hret
  have hm0 : Nw H0 H0 := Mo.refl _ _
  refine CW.seq (fun K1 hK1 hE1 => ?_)
  refine CW.region ?_
  refine LR.z (Z.boxv rfl rfl) (Wd.u rfl) rfl rfl (fun v2 H2 r2 => ?_)
  obtain ⟨rfl, va2, hs2, ob2, hH2⟩ := r2
  have hzs2 : H2.size = H0.size + 1 := by rw [hH2]; simp
  have nx1 : Nx 0 H0.size (H0.size + 1) := Nx.new hm0.size
  replace hm0 := hm0.tr hs2
  have hz1 := hs2.size
  replace va2 : Var 30 H2 H0.size (fA a) := va2
  refine LR.z (Z.boxv rfl rfl) (Wd.u rfl) rfl rfl (fun v3 H3 r3 => ?_)
  obtain ⟨rfl, va3, hs3, ob3, hH3⟩ := r3
  have hzs3 : H3.size = H2.size + 1 := by rw [hH3]; simp
  have dj2 : Dj (H0.size + 1) (H2.size + 1) := Dj.new va2.lt
  have nx3 : Nx 0 H0.size (H2.size + 1) := Nx.new hm0.size
  replace va2 := va2.nw hs3
  replace hm0 := hm0.tr hs3
  have hz2 := hs3.size
  replace va3 : Var 30 H3 H2.size (fA b) := va3
  refine LR.v (Y.assign rfl rfl) (Wd.u rfl) rfl rfl ?_
  refine LR.nil ?_
  refine hK1 _ _ ?_
  refine CW.seq (fun K2 hK2 hE2 => ?_)
  refine CW.region_tail 2 rfl (by kernel_rfl) (fun T1 hT1 => ?_)
  refine LR.e (g := fun v => v) (Y.sliceArrE (F := fun c => c = H0.size) (f := fB) (xs := a.1) va2.pt rfl va2.lt (a.2) (fun i x h => ⟨by simp [fA, h], rfl⟩) (0) (32) rfl (fun w => .inl (Try.runUnderlying30 w)) Try.sizeOf5 rfl (.inl ⟨rfl, rfl⟩) (.inl ⟨rfl, rfl⟩) (by omega) (by omega) (by decide)) (Wd.u rfl) rfl rfl (fun v5 rd5 => ?_)
  rw [List.drop_zero, List.take_of_length_le (by rw [a.2]; omega)] at rd5
  refine LR.e (g := fun v => v) (Y.sliceArrE (F := fun c => c = H2.size) (f := fB) (xs := b.1) va3.pt rfl va3.lt (b.2) (fun i x h => ⟨by simp [fA, h], rfl⟩) (0) (32) rfl (fun w => .inl (Try.runUnderlying30 w)) Try.sizeOf5 rfl (.inl ⟨rfl, rfl⟩) (.inl ⟨rfl, rfl⟩) (by omega) (by omega) (by decide)) (Wd.u rfl) rfl rfl (fun v6 rd6 => ?_)
  rw [List.drop_zero, List.take_of_length_le (by rw [b.2]; omega)] at rd6
  refine LR.nil (hT1 _ ?_)
  -- call bytes.Compare
  refine LR.call rfl Try.call43 rfl (Wd.u rfl) rfl rfl (cmp_ct _ _ a.1 b.1 w0 _ rd5.any rd6.any) (fun v7 H7 r7 => ?_)
  obtain ⟨rfl, hs7⟩ := r7
  replace va2 := va2.nw hs7
  replace va3 := va3.nw hs7
  replace hm0 := hm0.tr hs7
  have hz3 := hs7.size
  refine LR.v (Y.assign rfl rfl) (Wd.u rfl) rfl rfl ?_
  refine LR.nil ?_
  refine hK2 _ _ ?_
  refine CW.ret (hret .ret (.inr rfl) _ _ _ (res1 rfl rfl) ?_)
  exact ⟨rfl, hm0⟩

theorem iclone_ct (v1 : Value) (a : List Ide) (w0 : World) (H0 : Heap)
    (ha : RdT H0 fA 32 v1 a) (hal : a.length ≤ 1073741824) :
    Ct Try.prog w0 37 #[v1] H0 (fun r H2 => ∃ s : SV, ∃ k : Nat, r = s.v ∧ (Ow k 30 H2 fA 32 s.v a) ∧ (Nx 0 H0.size k) ∧ Nw H0 H2) := by
  refine Ct.enter (args := [v1]) Try.func37 rfl rfl rfl ?_
  intro Q0 hret
  have hm0 : Nw H0 H0 := Mo.refl _ _
  replace ha := ha.bnd
  have bf_ha := ha.bf
  obtain ⟨p, cp, rfl, _, _, hne⟩ := id ha.ex
  refine CW.seq (fun K1 hK1 hE1 => ?_)
  refine CW.region ?_
  refine LR.v (Y.assign rfl rfl) (Wd.u rfl) rfl rfl ?_
  refine LR.nil ?_
  refine hK1 _ _ ?_
  refine CW.seq (fun K2 hK2 hE2 => ?_)
  refine CW.seq (fun K3 hK3 hE3 => ?_)
  refine CW.region ?_
  refine LR.v (Y.move rfl rfl) (Wd.u rfl) rfl rfl ?_
  refine LR.v (Y.sleq rfl Try.underlying28 rfl rfl) (Wd.u rfl) rfl rfl ?_
  refine LR.nil ?_
  refine hK3 _ _ ?_
  refine CW.cond rfl (fun c4 => ?_) (fun c4 => ?_)
  ·
    obtain rfl : a = [] := by
      apply Decidable.byContradiction
      intro h
      obtain ⟨ad, h1, _⟩ := hne h
      rw [h1] at c4; cases c4
    refine CW.seq (fun K4 hK4 hE4 => ?_)
    refine CW.region ?_
    refine LR.v (Y.assign rfl rfl) (Wd.u rfl) rfl rfl ?_
    refine LR.nil ?_
    refine hK4 _ _ ?_
    refine CW.ret (hE2 .ret nofun _ _ (hret .ret (.inr rfl) _ _ _ (res1 rfl rfl) ?_))
    exact ⟨⟨none, 0, 0⟩, 0, rfl, Ow.nil fA_len fA_one, Nx.refl _ _, hm0⟩
  ·
    
    refine CW.skip ?_
    refine hK2 _ _ ?_
    refine CW.seq (fun K5 hK5 hE5 => ?_)
    refine CW.region ?_
    refine LR.z (Z.litw _ (([] : List Ide)) rfl inf28 rfl rfl rfl (by decide) (by decide) fA_len fA_one (rfl)) (Wd.u rfl) rfl rfl (fun v5 H5 r5 => ?_)
    obtain ⟨ow5, hs5, ob5, hH5⟩ := r5
    have hzs5 : H5.size = H0.size + 1 := by rw [hH5]; simp
    have df1 := (DF.new (bf_ha.mono hm0.size) : DF _ (H0.size + 1))
    have nx2 : Nx 0 H0.size (H0.size + 1) := Nx.new hm0.size
    replace ha := ha.nw hs5
    replace hm0 := hm0.tr hs5
    have hz1 := hs5.size
    refine LR.v (Y.move rfl rfl) (Wd.u rfl) rfl rfl ?_
    refine LR.z (Z.apnd ow5 ha rfl inf28 rfl rfl (by first | omega | (simp; omega)) (by first | omega | (simp; omega))) (Wd.u rfl) rfl rfl (fun v7 H7 r7 => ?_)
    obtain ⟨k7, ow7, hk7, hs7⟩ := r7
    replace hk7 : Nx (H0.size + 1) H5.size k7 := hk7
    replace hs7 := hs7.md
    have df3 := DF.app (df1) (bf_ha.mono hm0.size) hk7
    have nx4 : Nx 0 H0.size k7 := Nx.tr (nx2) hk7 hm0.size
    replace ha := ha.upL hs7 (DFL.cons df1 DFL.nil)
    replace hm0 := (Mo.trL (ks := []) (hm0.mdn []) hs7 (MIL.cons (MI.app MI.z (nx2) (Nat.le_refl _)) MIL.nil)).nil
    have hz2 := hs7.size
    have hle_ow7 := ow7.le
    refine LR.v (Y.assign rfl rfl) (Wd.u rfl) rfl rfl ?_
    refine LR.nil ?_
    refine hK5 _ _ ?_
    refine CW.ret (hret .ret (.inr rfl) _ _ _ (res1 rfl rfl) ?_)
    obtain ⟨s7, rfl⟩ : ∃ s : SV, v7 = s.v := ⟨toSV v7, ow7.sv.symm⟩
    exact ⟨s7, k7, rfl, by simpa using ow7, nx4, hm0⟩

end Go.Proofs.Ytepdhokpfecdnaa.GraA
