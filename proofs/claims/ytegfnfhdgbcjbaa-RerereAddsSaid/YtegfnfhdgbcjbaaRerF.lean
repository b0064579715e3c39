/-
  Memories: how rows of them lie; the place of a key; what is found.
-/
import Derived.Test.YtegfnfhdgbcjbaaRerB
import Derived.Test.YtegfnfhdgbcjbaaSumM
namespace Go.Proofs.Ytegfnfhdgbcjbaa.RerF
open Go.Proofs.Ytegfnfhdgbcjbaa.E Go.RowKit Go.Proofs.Ytegfnfhdgbcjbaa.LinM Go.Proofs.Ytegfnfhdgbcjbaa.LinC Go.Proofs.Ytegfnfhdgbcjbaa.LinL Go.Proofs.Ytegfnfhdgbcjbaa.LinN Go.Proofs.Ytegfnfhdgbcjbaa.MerA Go.Proofs.Ytegfnfhdgbcjbaa.MerB Go.Proofs.Ytegfnfhdgbcjbaa.MerC Go.Proofs.Ytegfnfhdgbcjbaa.MerD Go.Proofs.Ytegfnfhdgbcjbaa.MerE Go.Proofs.Ytegfnfhdgbcjbaa.MerF Go.Proofs.Ytegfnfhdgbcjbaa.MerH Go.Proofs.Ytegfnfhdgbcjbaa.MerL Go.Proofs.Ytegfnfhdgbcjbaa.MerM Go.Proofs.Ytegfnfhdgbcjbaa.MerN Go.Proofs.Ytegfnfhdgbcjbaa.SumA Go.Proofs.Ytegfnfhdgbcjbaa.SumB Go.Proofs.Ytegfnfhdgbcjbaa.SumC Go.Proofs.Ytegfnfhdgbcjbaa.SumD Go.Proofs.Ytegfnfhdgbcjbaa.SumE Go.Proofs.Ytegfnfhdgbcjbaa.SumF Go.Proofs.Ytegfnfhdgbcjbaa.SumG Go.Proofs.Ytegfnfhdgbcjbaa.SumK Go.Proofs.Ytegfnfhdgbcjbaa.SumL Go.Proofs.Ytegfnfhdgbcjbaa.SumM Go.Proofs.Ytegfnfhdgbcjbaa.DelA Go.Proofs.Ytegfnfhdgbcjbaa.RerA Go.Proofs.Ytegfnfhdgbcjbaa.RerB
set_option maxRecDepth 20000
set_option linter.unusedVariables false
set_option linter.unusedSimpArgs false
set_option linter.unusedSectionVars false
set_option maxRecDepth 100000 in
theorem inf22 : Inf Try.prog 22 5 1 1 := ⟨Try.underlying22, _, _, rfl, rfl, rfl, rfl, rfl⟩

/-- a memory, with where its bytes lie -/
structure Mm where
  k : List UInt8
  d : List UInt8
  v : SV
/-- a memory's key and bytes -/
abbrev Mn := List UInt8 × List UInt8
abbrev Mm.c (x : Mm) : Mn := (x.k, x.d)
/-- the key's cells, as many as there must be -/
def kc (k : List UInt8) : List Value := ((k ++ List.replicate 32 0).take 32).map V8
@[simp] theorem kc_len (k : List UInt8) : (kc k).length = 32 := by simp [kc]
theorem kc_eq {k : List UInt8} (h : k.length = 32) : kc k = k.map V8 := by
  unfold kc
  rw [List.take_append_of_le_length (by omega), List.take_of_length_le (by omega)]
abbrev fM (x : Mm) : List Value := kc x.k ++ [x.v.v]
theorem fM_len (x : Mm) : (fM x).length = 33 := by rw [List.length_append, kc_len]; rfl
theorem fM_one (x : Mm) : ∀ u ∈ fM x, u.oneCell' = true := by
  intro u hu
  rcases List.mem_append.1 hu with hu | hu
  · obtain ⟨b, _, rfl⟩ := List.mem_map.1 hu; rfl
  · rw [List.mem_singleton] at hu; rw [hu]; rfl
theorem l32 : ∀ {k : List UInt8}, k.length = 32 → ∃ b0 b1 b2 b3 b4 b5 b6 b7 b8 b9 b10 b11 b12 b13 b14 b15 b16 b17 b18 b19 b20 b21 b22 b23 b24 b25 b26 b27 b28 b29 b30 b31 : UInt8, k = [b0, b1, b2, b3, b4, b5, b6, b7, b8, b9, b10, b11, b12, b13, b14, b15, b16, b17, b18, b19, b20, b21, b22, b23, b24, b25, b26, b27, b28, b29, b30, b31] := by
  intro k h
  match k, h with
  | [b0, b1, b2, b3, b4, b5, b6, b7, b8, b9, b10, b11, b12, b13, b14, b15, b16, b17, b18, b19, b20, b21, b22, b23, b24, b25, b26, b27, b28, b29, b30, b31], _ => exact ⟨b0, b1, b2, b3, b4, b5, b6, b7, b8, b9, b10, b11, b12, b13, b14, b15, b16, b17, b18, b19, b20, b21, b22, b23, b24, b25, b26, b27, b28, b29, b30, b31, rfl⟩
theorem build_mm {k : List UInt8} (h : k.length = 32) (s : SV) (w : World) : (Instr.build 47 #[(0, idV k), (1, s.v)]).run Try.prog w = .ok (.agg (kc k ++ [s.v]).toArray) w := by
  rw [kc_eq h]
  obtain ⟨b0, b1, b2, b3, b4, b5, b6, b7, b8, b9, b10, b11, b12, b13, b14, b15, b16, b17, b18, b19, b20, b21, b22, b23, b24, b25, b26, b27, b28, b29, b30, b31, rfl⟩ := l32 h
  kernel_rfl
structure MmR (F : Nat → Prop) (H : Heap) (x : Mm) : Prop where
  k : x.k.length = 32
  d : Rd F H fB 1 x.v.v x.d
section
variable {F F' : Nat → Prop} {H H' : Heap} {x : Mm} {ks : List Nat} {m : Nat}
theorem MmR.nw (h : MmR F H x) (s : Nw H H') : MmR F H' x := ⟨h.k, h.d.nw s⟩
theorem MmR.imp (h : MmR F H x) (d : ∀ b, b < H.size → F b → F' b) : MmR F' H x := ⟨h.k, h.d.imp d⟩
theorem MmR.bnd (h : MmR F H x) : MmR (fun b => F b ∧ b < H.size) H x := h.imp (fun b hb h => ⟨h, hb⟩)
theorem MmR.any (h : MmR F H x) : MmR (fun _ => True) H x := h.imp (fun _ _ _ => trivial)
theorem MmR.upL (h : MmR F H x) (s : Mo (Ms ks) H H') (d : DFL F ks) : MmR F H' x := ⟨h.k, h.d.upL s d⟩
end
/-- where a key stands, or would -/
def placeL : List Mn → List UInt8 → Nat × Bool
  | [], _ => (0, false)
  | x :: l, k => if x.1 = k then (0, true) else if Op.bytesLess k x.1 = true then (0, false) else ((placeL l k).1 + 1, (placeL l k).2)
/-- ahead of place i a key is neither there nor would it be -/
def Past (l : List Mn) (k : List UInt8) (i : Nat) : Prop := ∀ x ∈ l.take i, x.1 ≠ k ∧ Op.bytesLess k x.1 = false
theorem Past.step {l : List Mn} {k : List UInt8} {i : Nat} (h : Past l k i) (hi : i < l.length) (h1 : l[i].1 ≠ k) (h2 : Op.bytesLess k l[i].1 = false) : Past l k (i + 1) := by
  intro x hx
  rw [List.take_succ_eq_append_getElem hi] at hx
  rcases List.mem_append.1 hx with hx | hx
  · exact h x hx
  · rw [List.mem_singleton] at hx; rw [hx]; exact ⟨h1, h2⟩
theorem place_past : ∀ {l : List Mn} {k : List UInt8} {i : Nat}, Past l k i → i ≤ l.length → placeL l k = (i + (placeL (l.drop i) k).1, (placeL (l.drop i) k).2)
  | _, _, 0, _, _ => by simp
  | [], _, i + 1, _, h => by simp at h
  | x :: l, k, i + 1, h, hi => by
    have h0 := h x (by simp)
    have ih := place_past (l := l) (k := k) (i := i) (fun y hy => h y (by simp [hy])) (by simpa using hi)
    rw [placeL, if_neg h0.1, if_neg (by simp [h0.2]), ih, List.drop_succ_cons]
    simp only [Prod.mk.injEq, and_true]
    omega
theorem place_hit {l : List Mn} {k : List UInt8} {i : Nat} (h : Past l k i) (hi : i < l.length) (h1 : l[i].1 = k) : placeL l k = (i, true) := by
  rw [place_past h (by omega), List.drop_eq_getElem_cons hi, placeL, if_pos h1]; rfl
theorem place_miss {l : List Mn} {k : List UInt8} {i : Nat} (h : Past l k i) (hi : i < l.length) (h1 : l[i].1 ≠ k) (h2 : Op.bytesLess k l[i].1 = true) : placeL l k = (i, false) := by
  rw [place_past h (by omega), List.drop_eq_getElem_cons hi, placeL, if_neg h1, if_pos h2]; rfl
theorem place_end {l : List Mn} {k : List UInt8} {i : Nat} (h : Past l k i) (hi : i = l.length) : placeL l k = (i, false) := by
  rw [place_past h (by omega), List.drop_eq_nil_of_le (by omega)]; rfl
theorem fM_pt {H : Heap} {ad : Addr} {x : Mm} (h : Pt H ad (fM x)) : Pt H (ad.add 32) [x.v.v] := by
  have := h.drop 32
  rwa [fM, List.drop_left' (kc_len _)] at this
/-- what is found -/
def findL (l : List Mn) (k : List UInt8) : List UInt8 := if (placeL l k).2 = true then (l.getD (placeL l k).1 ([], [])).2 else []
theorem place_lt : ∀ {l : List Mn} {k : List UInt8}, (placeL l k).2 = true → (placeL l k).1 < l.length
  | [], _, h => by simp [placeL] at h
  | x :: l, k, h => by
    rw [placeL] at h ⊢
    split
    · simp
    · rename_i h1
      rw [if_neg h1] at h
      split
      · simp
      · rename_i h2
        rw [if_neg h2] at h
        have := place_lt (l := l) h
        simp only [List.length_cons]
        omega
theorem place_le : ∀ (l : List Mn) (k : List UInt8), (placeL l k).1 ≤ l.length
  | [], _ => by simp [placeL]
  | x :: l, k => by
    rw [placeL]
    split
    · simp
    · split
      · simp
      · have := place_le l k
        simp only [List.length_cons]; omega
theorem kc_at {k : List UInt8} (u : Value) (h : k.length = 32) : (kc k ++ [u]).take 32 = k.map V8 := by
  rw [List.take_append_of_le_length (by rw [kc_len]; omega), List.take_of_length_le (by rw [kc_len]; omega), kc_eq h]

set_option maxHeartbeats 4000000 in
theorem place_ct (v : Value) (l : List Mm) (k : List UInt8) (w0 : World) (H0 : Heap)
    (hl : RdT H0 fM 33 v l) (hk : k.length = 32) (hks : ∀ x ∈ l, x.k.length = 32) :
    Ct Try.prog w0 34 #[v, idV k] H0 (fun r H2 => r = .tuple #[.int .i64 (placeL (l.map Mm.c) k).1, .bool (placeL (l.map Mm.c) k).2] ∧ Nw H0 H2) := by
  refine Ct.enter (args := [v, idV k]) Try.func34 rfl rfl rfl ?_
  intro Q0 hret
  have hm0 : Nw H0 H0 := Mo.refl _ _
  replace hl := hl.bnd
  have bf_hl := Rd.bf hl
  have hlm := hl.len
  refine CW.seq (fun K1 hK1 hE1 => ?_)
  refine CW.region ?_
  refine LR.z (Z.boxv rfl rfl) (Wd.u rfl) rfl rfl (fun v3 H3 r3 => ?_)
  obtain ⟨rfl, hb, hs3, ob3, hH3⟩ := r3
  have hzs3 : H3.size = H0.size + 1 := by rw [hH3]; simp
  have df1 := (DF.new (bf_hl.mono hm0.size) : DF _ (H0.size + 1))
  have nx2 : Nx 0 H0.size (H0.size + 1) := Nx.new hm0.size
  replace hl := hl.nw hs3
  replace hm0 := hm0.tr hs3
  have hz1 := hs3.size
  replace hb : Var 25 H3 H0.size (k.map V8) := hb
  refine LR.v (Y.assign rfl rfl) (Wd.u rfl) rfl rfl ?_
  refine LR.v (Y.assign rfl rfl) (Wd.u rfl) rfl rfl ?_
  refine LR.nil ?_
  refine hK1 _ _ ?_
  refine CW.seq (fun K2 hK2 hE2 => ?_)
  refine CW.seq (fun K3 hK3 hE3 => ?_)
  refine CW.region ?_
  refine LR.v (Y.move rfl rfl) (Wd.u rfl) rfl rfl ?_
  refine LR.v (Y.len hl rfl Try.runUnderlying40 rfl) (Wd.u rfl) rfl rfl ?_
  refine LR.v (Y.move rfl rfl) (Wd.u rfl) rfl rfl ?_
  refine LR.nil ?_
  refine hK3 _ _ ?_
  refine CW.block (fun K4 hK4 hX4 hE4 => ?_)
  refine CW.loop (fun (i : (Nat)) => [(0, v), (3, .pointer (some ⟨H0.size, 0, none⟩)), (8, v), (9, .int .i64 l.length), (10, .int .i64 i)])
    (fun (i : (Nat)) (H : Heap) => (i ≤ l.length) ∧ (Past (l.map Mm.c) k i) ∧ Nw H3 H)
    (fun (i : (Nat)) => l.length - i) 0 ⟨rfl, rfl, rfl, rfl, rfl, trivial⟩ ?_ ?_
  ·
    exact ⟨(by omega), (fun x hx => by simp at hx), Mo.refl _ _⟩
  intro i HL1 hI1 K5 hN5 hE5
  obtain ⟨hi, hp, hlm1⟩ := hI1
  replace hl := hl.nw hlm1
  replace hb := hb.nw hlm1
  replace hm0 := hm0.tr hlm1
  have hz2 := hlm1.size
  refine CW.seq (fun K6 hK6 hE6 => ?_)
  refine CW.region ?_
  refine LR.v (Y.lss rfl rfl rfl) (Wd.u rfl) rfl rfl ?_
  refine LR.nil ?_
  refine hK6 _ _ ?_
  refine CW.seq (fun K7 hK7 hE7 => ?_)
  refine CW.condp rfl (fun c11 => ?_) (fun c11 => ?_)
  ·
    refine CW.skip ?_
    refine hK7 _ _ ?_
    refine CW.seq (fun K8 hK8 hE8 => ?_)
    refine CW.block (fun K9 hK9 hX9 hE9 => ?_)
    refine CW.seq (fun K10 hK10 hE10 => ?_)
    refine CW.region ?_
    refine LR.v (Y.move rfl rfl) (Wd.u rfl) rfl rfl ?_
    have hil : i < l.length := by omega
    have hki := hks l[i] (List.getElem_mem hil)
    refine LR.e (g := fun ad => .pointer (some ad)) (Y.indexAddrF hl (i) rfl Try.runUnderlying40 Try.sizeOf47 rfl rfl (by first | rfl | omega) (by first | omega | (simp; omega) | (simp; done))) (Wd.u rfl) rfl rfl (fun ad13 pt13 => ?_)
    have bf_pt13 := bf_hl
    refine LR.v (Y.loadN pt13.pt rfl Try.isAgg47 Try.sizeOf47 (fM_len _) rfl) (Wd.u rfl) rfl rfl ?_
    refine LR.z (Z.allocv rfl Try.zeroValue47) (Wd.u rfl) rfl rfl (fun v7 H7 r7 => ?_)
    obtain ⟨rfl, hc, hs7, ob7, hH7⟩ := r7
    have hzs7 : H7.size = HL1.size + 1 := by rw [hH7]; simp
    have df3 := (DF.new (bf_hl.mono hm0.size) : DF _ (HL1.size + 1))
    have dj4 : Dj (H0.size + 1) (HL1.size + 1) := Dj.new hb.lt
    have df5 := (DF.new (bf_pt13.mono hm0.size) : DF _ (HL1.size + 1))
    have nx6 : Nx 0 H0.size (HL1.size + 1) := Nx.new hm0.size
    have nx7 : Nx 0 H3.size (HL1.size + 1) := Nx.new hlm1.size
    replace hl := hl.nw hs7
    replace hb := hb.nw hs7
    replace pt13 := pt13.nw hs7
    replace hm0 := hm0.tr hs7
    replace hlm1 := hlm1.tr hs7
    have hz3 := hs7.size
    refine LR.v (Y.assign rfl rfl) (Wd.u rfl) rfl rfl ?_
    refine LR.s (S.var hc (_) (fM l[i]) rfl rfl rfl rfl (fM_one l[i]) Try.sizeOf47 (fM_len _) (by decide) ((splice_all2 (fM_len _).symm))) (Wd.u rfl) rfl (fun H3_5 r3_5 => ?_)
    obtain ⟨hc, hs3_5⟩ := r3_5
    replace hs3_5 := hs3_5.md1
    replace hl := hl.upL hs3_5 (DFL.cons df3 DFL.nil)
    replace hb := hb.upL hs3_5 (DL.cons dj4 DL.nil)
    replace pt13 := pt13.upL hs3_5 (DFL.cons df5 DFL.nil)
    replace hm0 := (Mo.trL (ks := []) (hm0.mdn []) hs3_5 (MIL.cons (MI.app MI.z (nx6) (Nat.le_refl _)) MIL.nil)).nil
    replace hlm1 := (Mo.trL (ks := []) (hlm1.mdn []) hs3_5 (MIL.cons (MI.app MI.z (nx7) (Nat.le_refl _)) MIL.nil)).nil
    have hz4 := hs3_5.size
    refine LR.nil ?_
    refine hK10 _ _ ?_
    refine CW.seq (fun K11 hK11 hE11 => ?_)
    refine CW.seq (fun K12 hK12 hE12 => ?_)
    refine CW.region ?_
    refine LR.v (Y.fieldAddr hc.pt rfl Try.runUnderlying47 rfl rfl Try.sizeOf25 (by decide) rfl) (Wd.u rfl) rfl rfl ?_
    refine LR.v (Y.cast (v2 := idV l[i].k) (Y.loadN (hc.pt.take 32) rfl Try.isAgg25 Try.sizeOf25 (by simp [kc_len]) rfl) (congrArg (fun x : List Value => Value.agg x.toArray) (kc_at _ hki))) (Wd.u rfl) rfl rfl ?_
    refine LR.v (Y.loadN hb.pt rfl Try.isAgg25 Try.sizeOf25 (by simp [hk]) rfl) (Wd.u rfl) rfl rfl ?_
    refine LR.v (Y.aeql rfl Try.eqGuardType25 (fun w => run_equalIn_id 9998 Try.underlying25 Try.underlying5 Try.sizeOf5 Try.isAgg5 (hki) (hk) w) rfl rfl) (Wd.u rfl) rfl rfl ?_
    refine LR.nil ?_
    refine hK12 _ _ ?_
    refine CW.condp rfl (fun c18 => ?_) (fun c18 => ?_)
    ·
      refine CW.seq (fun K13 hK13 hE13 => ?_)
      refine CW.region ?_
      refine LR.v (Y.move rfl rfl) (Wd.u rfl) rfl rfl ?_
      refine LR.v (Y.assign rfl rfl) (Wd.u rfl) rfl rfl ?_
      refine LR.v (Y.assign rfl rfl) (Wd.u rfl) rfl rfl ?_
      refine LR.nil ?_
      refine hK13 _ _ ?_
      refine CW.ret (hE11 .ret nofun _ _ (hE9 .ret nofun (by simp) _ _ (hE8 .ret nofun _ _ (hE5 .ret nofun _ _ (hE4 .ret nofun (by simp) _ _ (hE2 .ret nofun _ _ (hret .ret (.inr rfl) _ _ _ (res2 rfl rfl rfl) ?_)))))))
      exact ⟨by rw [place_hit hp (by simpa using hil) (by simpa using c18)], hm0⟩
    ·
      refine CW.skip ?_
      refine hK11 _ _ ?_
      refine CW.seq (fun K14 hK14 hE14 => ?_)
      refine CW.region ?_
      refine LR.v (Y.loadN hb.pt rfl Try.isAgg25 Try.sizeOf25 (by simp [hk]) rfl) (Wd.u rfl) rfl rfl ?_
      refine LR.v (Y.fieldAddr hc.pt rfl Try.runUnderlying47 rfl rfl Try.sizeOf25 (by decide) rfl) (Wd.u rfl) rfl rfl ?_
      refine LR.v (Y.cast (v2 := idV l[i].k) (Y.loadN (hc.pt.take 32) rfl Try.isAgg25 Try.sizeOf25 (by simp [kc_len]) rfl) (congrArg (fun x : List Value => Value.agg x.toArray) (kc_at _ hki))) (Wd.u rfl) rfl rfl ?_
      -- call selvage/sum.Less
      refine LR.call rfl Try.call54 rfl (Wd.u rfl) rfl rfl (less_ct k l[i].k w0 _ hk hki) (fun v23 H23 r23 => ?_)
      obtain ⟨rfl, hs23⟩ := r23
      replace hl := hl.nw hs23
      replace hb := hb.nw hs23
      replace hc := hc.nw hs23
      replace hm0 := hm0.tr hs23
      replace hlm1 := hlm1.tr hs23
      have hz5 := hs23.size
      refine LR.nil ?_
      refine hK14 _ _ ?_
      refine CW.cond rfl (fun c23 => ?_) (fun c23 => ?_)
      ·
        refine CW.seq (fun K15 hK15 hE15 => ?_)
        refine CW.region ?_
        refine LR.v (Y.move rfl rfl) (Wd.u rfl) rfl rfl ?_
        refine LR.v (Y.assign rfl rfl) (Wd.u rfl) rfl rfl ?_
        refine LR.v (Y.assign rfl rfl) (Wd.u rfl) rfl rfl ?_
        refine LR.nil ?_
        refine hK15 _ _ ?_
        refine CW.ret (hE9 .ret nofun (by simp) _ _ (hE8 .ret nofun _ _ (hE5 .ret nofun _ _ (hE4 .ret nofun (by simp) _ _ (hE2 .ret nofun _ _ (hret .ret (.inr rfl) _ _ _ (res2 rfl rfl rfl) ?_))))))
        exact ⟨by rw [place_miss hp (by simpa using hil) (by simpa using c18) (by simpa using c23)], hm0⟩
      ·
        refine CW.skip ?_
        refine hK9 _ _ ?_
        refine hK8 _ _ ?_
        refine CW.region ?_
        refine LR.v (Y.addi rfl rfl rfl (by omega)) (Wd.u rfl) rfl rfl ?_
        refine LR.v (Y.move rfl rfl) (Wd.u rfl) rfl rfl ?_
        refine LR.nil ?_
        refine QN.sub (hN5 (i + 1) _ ?_ ?_) ⟨rfl, rfl, rfl, (iv (by omega)), (iv (by omega)), trivial⟩
        · exact ⟨(by omega), hp.step (by simpa using (by omega : i < l.length)) (by simpa using c18) (by simpa using c23), hlm1⟩
        · first | omega | (simp only; omega) | (simp; omega)
  ·
    refine CW.exit (hE7 (.exit 0) nofun _ _ (hE5 (.exit 0) nofun _ _ (hX4 _ _ ?_)))
    refine hK2 _ _ ?_
    refine CW.seq (fun K16 hK16 hE16 => ?_)
    refine CW.region ?_
    refine LR.v (Y.move rfl rfl) (Wd.u rfl) rfl rfl ?_
    refine LR.v (Y.len hl rfl Try.runUnderlying40 rfl) (Wd.u rfl) rfl rfl ?_
    refine LR.v (Y.assign rfl rfl) (Wd.u rfl) rfl rfl ?_
    refine LR.v (Y.assign rfl rfl) (Wd.u rfl) rfl rfl ?_
    refine LR.nil ?_
    refine hK16 _ _ ?_
    refine CW.ret (hret .ret (.inr rfl) _ _ _ (res2 rfl rfl rfl) ?_)
    have hil : i = l.length := by omega
    exact ⟨by rw [place_end hp (by simpa using hil), hil], hm0⟩

theorem bclone_ct (v1 : Value) (a : List UInt8) (w0 : World) (H0 : Heap)
    (ha : RdT H0 fB 1 v1 a) (hal : a.length ≤ 140737488355328) :
    Ct Try.prog w0 36 #[v1] H0 (fun r H2 => ∃ s : SV, ∃ k : Nat, r = s.v ∧ (Ow k 5 H2 fB 1 s.v a) ∧ (Nx 0 H0.size k) ∧ Nw H0 H2) := by
  refine Ct.enter (args := [v1]) Try.func36 rfl rfl rfl ?_
  intro Q0 hret
  have hm0 : Nw H0 H0 := Mo.refl _ _
  replace ha := ha.bnd
  have bf_ha := Rd.bf ha
  obtain ⟨p, cp, rfl, _, _, hne⟩ := id ha.ex
  refine CW.seq (fun K1 hK1 hE1 => ?_)
  refine CW.region ?_
  refine LR.v (Y.assign rfl rfl) (Wd.u rfl) rfl rfl ?_
  refine LR.nil ?_
  refine hK1 _ _ ?_
  refine CW.seq (fun K2 hK2 hE2 => ?_)
  refine CW.seq (fun K3 hK3 hE3 => ?_)
  refine CW.region ?_
  refine LR.v (Y.move rfl rfl) (Wd.u rfl) rfl rfl ?_
  refine LR.v (Y.sleq rfl Try.underlying22 rfl rfl) (Wd.u rfl) rfl rfl ?_
  refine LR.nil ?_
  refine hK3 _ _ ?_
  refine CW.cond rfl (fun c4 => ?_) (fun c4 => ?_)
  ·
    obtain rfl : a = [] := by
      apply Decidable.byContradiction
      intro h
      obtain ⟨ad, h1, _⟩ := hne h
      rw [h1] at c4; cases c4
    refine CW.seq (fun K4 hK4 hE4 => ?_)
    refine CW.region ?_
    refine LR.v (Y.assign rfl rfl) (Wd.u rfl) rfl rfl ?_
    refine LR.nil ?_
    refine hK4 _ _ ?_
    refine CW.ret (hE2 .ret nofun _ _ (hret .ret (.inr rfl) _ _ _ (res1 rfl rfl) ?_))
    exact ⟨⟨none, 0, 0⟩, 0, rfl, Ow.nil fB_len fB_one, Nx.refl _ _, hm0⟩
  ·
    
    refine CW.skip ?_
    refine hK2 _ _ ?_
    refine CW.seq (fun K5 hK5 hE5 => ?_)
    refine CW.region ?_
    refine LR.z (Z.litw _ (([] : List UInt8)) rfl inf22 rfl rfl rfl (by decide) (by decide) fB_len fB_one (rfl)) (Wd.u rfl) rfl rfl (fun v5 H5 r5 => ?_)
    obtain ⟨ow5, hs5, ob5, hH5⟩ := r5
    have hzs5 : H5.size = H0.size + 1 := by rw [hH5]; simp
    have df1 := (DF.new (bf_ha.mono hm0.size) : DF _ (H0.size + 1))
    have nx2 : Nx 0 H0.size (H0.size + 1) := Nx.new hm0.size
    replace ha := ha.nw hs5
    replace hm0 := hm0.tr hs5
    have hz1 := hs5.size
    refine LR.v (Y.move rfl rfl) (Wd.u rfl) rfl rfl ?_
    refine LR.z (Z.apnd ow5 ha rfl inf22 rfl rfl (by first | omega | (simp; omega)) (by first | omega | (simp; omega))) (Wd.u rfl) rfl rfl (fun v7 H7 r7 => ?_)
    obtain ⟨k7, ow7, hk7, hs7⟩ := r7
    replace hk7 : Nx (H0.size + 1) H5.size k7 := hk7
    replace hs7 := hs7.md
    have df3 := DF.app (df1) (bf_ha.mono hm0.size) hk7
    have nx4 : Nx 0 H0.size k7 := Nx.tr (nx2) hk7 hm0.size
    replace ha := ha.upL hs7 (DFL.cons df1 DFL.nil)
    replace hm0 := (Mo.trL (ks := []) (hm0.mdn []) hs7 (MIL.cons (MI.app MI.z (nx2) (Nat.le_refl _)) MIL.nil)).nil
    have hz2 := hs7.size
    have hle_ow7 := ow7.le
    refine LR.v (Y.assign rfl rfl) (Wd.u rfl) rfl rfl ?_
    refine LR.nil ?_
    refine hK5 _ _ ?_
    refine CW.ret (hret .ret (.inr rfl) _ _ _ (res1 rfl rfl) ?_)
    obtain ⟨s7, rfl⟩ : ∃ s : SV, v7 = s.v := ⟨toSV v7, ow7.sv.symm⟩
    exact ⟨s7, k7, rfl, by simpa using ow7, nx4, hm0⟩

set_option maxHeartbeats 4000000 in
theorem find_ct (v : Value) (l : List Mm) (k : List UInt8) (w0 : World) (H0 : Heap)
    (hl : RdT H0 fM 33 v l) (hk : k.length = 32) (hx : ∀ x ∈ l, MmR (fun _ => True) H0 x) (hdl : ∀ x ∈ l, x.d.length ≤ 140737488355328) :
    Ct Try.prog w0 18 #[v, idV k] H0 (fun r H2 => ∃ s : SV, ∃ kd : Nat, r = .tuple #[s.v, .bool (placeL (l.map Mm.c) k).2] ∧ (Ow kd 5 H2 fB 1 s.v (findL (l.map Mm.c) k)) ∧ (Nx 0 H0.size kd) ∧ Nw H0 H2) := by
  refine Ct.enter (args := [v, idV k]) Try.func18 rfl rfl rfl ?_
  intro Q0 hret
  have hm0 : Nw H0 H0 := Mo.refl _ _
  replace hl := hl.bnd
  have bf_hl := Rd.bf hl
  replace hx := fun x hx0 => (hx x hx0).bnd
  have bf_hx : BF (fun b => True ∧ b < H0.size) H0.size := fun b h => h.2
  have hlm := hl.len
  refine CW.seq (fun K1 hK1 hE1 => ?_)
  refine CW.region ?_
  refine LR.z (Z.boxv rfl rfl) (Wd.u rfl) rfl rfl (fun v3 H3 r3 => ?_)
  obtain ⟨rfl, hb, hs3, ob3, hH3⟩ := r3
  have hzs3 : H3.size = H0.size + 1 := by rw [hH3]; simp
  have df1 := (DF.new (bf_hl.mono hm0.size) : DF _ (H0.size + 1))
  have df2 := (DF.new (bf_hx.mono hm0.size) : DF _ (H0.size + 1))
  have nx3 : Nx 0 H0.size (H0.size + 1) := Nx.new hm0.size
  replace hl := hl.nw hs3
  replace hx := fun x hx0 => (hx x hx0).nw hs3
  replace hm0 := hm0.tr hs3
  have hz1 := hs3.size
  replace hb : Var 25 H3 H0.size (k.map V8) := hb
  refine LR.v (Y.assign rfl rfl) (Wd.u rfl) rfl rfl ?_
  refine LR.v (Y.assign rfl rfl) (Wd.u rfl) rfl rfl ?_
  refine LR.nil ?_
  refine hK1 _ _ ?_
  refine CW.seq (fun K2 hK2 hE2 => ?_)
  refine CW.region ?_
  refine LR.v (Y.move rfl rfl) (Wd.u rfl) rfl rfl ?_
  refine LR.v (Y.loadN hb.pt rfl Try.isAgg25 Try.sizeOf25 (by simp [hk]) rfl) (Wd.u rfl) rfl rfl ?_
  -- call selvage/rerere.place
  refine LR.call rfl Try.call34 rfl (Wd.u rfl) rfl rfl (place_ct v l k w0 _ hl.any hk (fun x h => (hx x h).k)) (fun v11 H11 r11 => ?_)
  obtain ⟨rfl, hs11⟩ := r11
  replace hl := hl.nw hs11
  replace hx := fun x hx0 => (hx x hx0).nw hs11
  replace hb := hb.nw hs11
  replace hm0 := hm0.tr hs11
  have hz2 := hs11.size
  refine LR.v (Y.move rfl rfl) (Wd.u rfl) rfl rfl ?_
  refine LR.v (Y.extract rfl rfl rfl) (Wd.u rfl) rfl rfl ?_
  refine LR.v (Y.extract rfl rfl rfl) (Wd.u rfl) rfl rfl ?_
  refine LR.v (Y.assign rfl rfl) (Wd.u rfl) rfl rfl ?_
  refine LR.v (Y.assign rfl rfl) (Wd.u rfl) rfl rfl ?_
  refine LR.nil ?_
  refine hK2 _ _ ?_
  refine CW.seq (fun K3 hK3 hE3 => ?_)
  refine CW.seq (fun K4 hK4 hE4 => ?_)
  refine CW.region ?_
  refine LR.v (Y.move rfl rfl) (Wd.u rfl) rfl rfl ?_
  refine LR.v (Y.not rfl rfl) (Wd.u rfl) rfl rfl ?_
  refine LR.nil ?_
  refine hK4 _ _ ?_
  refine CW.cond rfl (fun c15 => ?_) (fun c15 => ?_)
  ·
    refine CW.seq (fun K5 hK5 hE5 => ?_)
    refine CW.region ?_
    refine LR.v (Y.assign rfl rfl) (Wd.u rfl) rfl rfl ?_
    refine LR.v (Y.assign rfl rfl) (Wd.u rfl) rfl rfl ?_
    refine LR.nil ?_
    refine hK5 _ _ ?_
    refine CW.ret (hE3 .ret nofun _ _ (hret .ret (.inr rfl) _ _ _ (res2 rfl rfl rfl) ?_))
    exact ⟨⟨none, 0, 0⟩, 0, by rw [show (placeL (l.map Mm.c) k).2 = false by simpa using c15], by rw [findL, if_neg (by simpa using c15)]; exact Ow.nil fB_len fB_one, Nx.refl _ _, hm0⟩
  ·
    have his : (placeL (l.map Mm.c) k).2 = true := by simpa using c15
    have hi0 := place_lt his
    rw [List.length_map] at hi0
    obtain ⟨i, hi⟩ : ∃ i, (placeL (l.map Mm.c) k).1 = i := ⟨_, rfl⟩
    rw [hi] at hi0
    have hmi := hx l[i] (List.getElem_mem hi0)
    have hdi := hdl l[i] (List.getElem_mem hi0)
    refine CW.skip ?_
    refine hK3 _ _ ?_
    refine CW.seq (fun K6 hK6 hE6 => ?_)
    refine CW.region ?_
    refine LR.v (Y.move rfl rfl) (Wd.u rfl) rfl rfl ?_
    refine LR.v (Y.move rfl rfl) (Wd.u rfl) rfl rfl ?_
    refine LR.e (g := fun ad => .pointer (some ad)) (Y.indexAddrF hl (i) rfl Try.runUnderlying40 Try.sizeOf47 rfl rfl (by rw [hi]) (by first | omega | (simp; omega) | (simp; done))) (Wd.u rfl) rfl rfl (fun ad18 pt18 => ?_)
    have bf_pt18 := bf_hl
    refine LR.v (Y.fieldAddr pt18.pt rfl Try.runUnderlying47 rfl rfl Try.sizeOf22 (by decide) rfl) (Wd.u rfl) rfl rfl ?_
    refine LR.v (Y.load1 (fM_pt pt18.pt) rfl Try.isAgg22 rfl) (Wd.u rfl) rfl rfl ?_
    -- call slices.Clone[[]byte,byte]
    refine LR.call rfl Try.call36 rfl (Wd.u rfl) rfl rfl (bclone_ct _ l[i].d w0 _ hmi.d.any hdi) (fun v21 H21 r21 => ?_)
    obtain ⟨s21, k21, rfl, ow21, hk21, hs21⟩ := r21
    have df4 := DF.app (DF.z) (bf_hl.mono hm0.size) hk21
    have df5 := DF.app (DF.z) (bf_hx.mono hm0.size) hk21
    have df6 := DF.app (DF.z) (bf_pt18.mono hm0.size) hk21
    have nx7 : Nx 0 H0.size k21 := Nx.tr (Nx.refl 0 _) hk21 hm0.size
    replace hl := hl.nw hs21
    replace hx := fun x hx0 => (hx x hx0).nw hs21
    replace pt18 := pt18.nw hs21
    replace hm0 := hm0.tr hs21
    have hz3 := hs21.size
    have hle_ow21 := ow21.le
    refine LR.v (Y.assign rfl rfl) (Wd.u rfl) rfl rfl ?_
    refine LR.v (Y.assign rfl rfl) (Wd.u rfl) rfl rfl ?_
    refine LR.nil ?_
    refine hK6 _ _ ?_
    refine CW.ret (hret .ret (.inr rfl) _ _ _ (res2 rfl rfl rfl) ?_)
    exact ⟨s21, k21, by rw [his], by rw [findL, if_pos his, hi, show (l.map Mm.c).getD i ([], []) = l[i].c by simp [List.getD, hi0]]; exact ow21, nx7, hm0⟩

set_option maxHeartbeats 4000000 in
theorem own_ct (x : Mm) (w0 : World) (H0 : Heap)
    (hk : x.k.length = 32) (hd : RdT H0 fB 1 x.v.v x.d) (hdl : x.d.length ≤ 140737488355328) :
    Ct Try.prog w0 33 #[.agg (fM x).toArray] H0 (fun r H2 => ∃ s : SV, ∃ kd : Nat, r = .agg (fM ⟨x.k, x.d, s⟩).toArray ∧ (Ow kd 5 H2 fB 1 s.v x.d) ∧ (Nx 0 H0.size kd) ∧ Nw H0 H2) := by
  refine Ct.enter (args := [.agg (fM x).toArray]) Try.func33 rfl rfl rfl ?_
  intro Q0 hret
  have hm0 : Nw H0 H0 := Mo.refl _ _
  replace hd := hd.bnd
  have bf_hd := Rd.bf hd
  refine CW.seq (fun K1 hK1 hE1 => ?_)
  refine CW.region ?_
  refine LR.z (Z.boxv rfl rfl) (Wd.u rfl) rfl rfl (fun v1 H1 r1 => ?_)
  obtain ⟨rfl, hb, hs1, ob1, hH1⟩ := r1
  have hzs1 : H1.size = H0.size + 1 := by rw [hH1]; simp
  have df1 := (DF.new (bf_hd.mono hm0.size) : DF _ (H0.size + 1))
  have nx2 : Nx 0 H0.size (H0.size + 1) := Nx.new hm0.size
  replace hd := hd.nw hs1
  replace hm0 := hm0.tr hs1
  have hz1 := hs1.size
  replace hb : Var 47 H1 H0.size (fM x) := hb
  refine LR.z (Z.allocv rfl Try.zeroValue47) (Wd.u rfl) rfl rfl (fun v2 H2 r2 => ?_)
  obtain ⟨rfl, hc, hs2, ob2, hH2⟩ := r2
  have hzs2 : H2.size = H1.size + 1 := by rw [hH2]; simp
  have df3 := (DF.new (bf_hd.mono hm0.size) : DF _ (H1.size + 1))
  have dj4 : Dj (H0.size + 1) (H1.size + 1) := Dj.new hb.lt
  have nx5 : Nx 0 H0.size (H1.size + 1) := Nx.new hm0.size
  replace hd := hd.nw hs2
  replace hb := hb.nw hs2
  replace hm0 := hm0.tr hs2
  have hz2 := hs2.size
  refine LR.nil ?_
  refine hK1 _ _ ?_
  refine CW.seq (fun K2 hK2 hE2 => ?_)
  refine CW.region_any (fun Hq => Nw H2 Hq) [6] rfl ?_
  have hqs := Nw.refl H2
  refine LH.take 0 (by kernel_rfl) rfl (by kernel_rfl) (by kernel_rfl) (by kernel_rfl) (fun Hq hq => Y.fieldAddr (hb.pt.nw hq) rfl Try.runUnderlying47 rfl rfl Try.sizeOf25 (by decide) rfl) (Wd.u rfl) rfl rfl hqs ?_
  refine LH.take 1 (by kernel_rfl) rfl (by kernel_rfl) (by kernel_rfl) (by kernel_rfl) (fun Hq hq => Y.cast (v2 := idV x.k) (Y.loadN ((hb.pt.nw hq).take 32) rfl Try.isAgg25 Try.sizeOf25 (by simp [kc_len]) rfl) (congrArg (fun x : List Value => Value.agg x.toArray) (kc_at _ hk))) (Wd.u rfl) rfl rfl hqs ?_
  refine LH.take 2 (by kernel_rfl) rfl (by kernel_rfl) (by kernel_rfl) (by kernel_rfl) (fun Hq hq => Y.fieldAddr (hb.pt.nw hq) rfl Try.runUnderlying47 rfl rfl Try.sizeOf22 (by decide) rfl) (Wd.u rfl) rfl rfl hqs ?_
  refine LH.take 3 (by kernel_rfl) rfl (by kernel_rfl) (by kernel_rfl) (by kernel_rfl) (fun Hq hq => Y.load1 ((fM_pt hb.pt).nw hq) rfl Try.isAgg22 rfl) (Wd.u rfl) rfl rfl hqs ?_
  refine LH.one (i := 4) (by kernel_rfl) ?_
  -- call slices.Clone[[]byte,byte]
  refine LO.call rfl rfl Try.call36 rfl (Wd.u rfl) rfl rfl (bclone_ct _ x.d w0 _ hd.any hdl) (fun v7 H7 r7 => ?_)
  obtain ⟨s7, k7, rfl, ow7, hk7, hs7⟩ := r7
  have df6 := DF.app (DF.z) (bf_hd.mono hm0.size) hk7
  have dj7 : Dj (H0.size + 1) k7 := Dj.app (Dj.z) hb.lt hk7
  have dj8 : Dj (H1.size + 1) k7 := Dj.app (Dj.z) hc.lt hk7
  have nx9 : Nx 0 H0.size k7 := Nx.tr (Nx.refl 0 _) hk7 hm0.size
  replace hd := hd.nw hs7
  replace hb := hb.nw hs7
  replace hc := hc.nw hs7
  replace hm0 := hm0.tr hs7
  have hz3 := hs7.size
  have hle_ow7 := ow7.le
  have hq7 := hqs.tr hs7
  refine ⟨.inr hq7, LH.narrow (SH2 := fun Hq => Nw H7 Hq) (fun Hq hq => hq7.tr hq) ?_⟩
  have hqn7 := Nw.refl H7
  refine LH.take 5 (by kernel_rfl) rfl (by kernel_rfl) (by kernel_rfl) (by kernel_rfl) (fun Hq hq => Y.build (v := .agg (fM ⟨x.k, x.d, s7⟩).toArray) rfl rfl (by intro w; exact build_mm hk s7 _)) (Wd.u rfl) rfl rfl hqn7 ?_
  refine LH.one (i := 6) (by kernel_rfl) ?_
  refine LO.s rfl (S.var hc (_) (fM ⟨x.k, x.d, s7⟩) rfl rfl rfl rfl (fM_one _) Try.sizeOf47 (fM_len _) (by decide) ((splice_all2 (fM_len _).symm))) (Wd.u rfl) rfl (fun H1_6 r1_6 => ?_)
  obtain ⟨hc, hs1_6⟩ := r1_6
  replace hs1_6 := hs1_6.md1
  replace hd := hd.upL hs1_6 (DFL.cons df3 DFL.nil)
  replace hb := hb.upL hs1_6 (DL.cons dj4 DL.nil)
  replace ow7 := ow7.upL hs1_6 (DL.cons dj8.symm DL.nil)
  replace hm0 := (Mo.trL (ks := []) (hm0.mdn []) hs1_6 (MIL.cons (MI.app MI.z (nx5) (Nat.le_refl _)) MIL.nil)).nil
  have hz4 := hs1_6.size
  refine ⟨.inl rfl, ?_⟩
  refine LH.done (by kernel_rfl) ?_
  have hqe := hqn7
  refine hK2 _ _ ?_
  refine CW.ret (hret .ret (.inr rfl) _ _ _ (resC rfl rfl hc.pt Try.isAgg47 Try.sizeOf47 (by first | rfl | simp)) ?_)
  exact ⟨s7, k7, rfl, ow7, nx9, hm0⟩

end Go.Proofs.Ytegfnfhdgbcjbaa.RerF
