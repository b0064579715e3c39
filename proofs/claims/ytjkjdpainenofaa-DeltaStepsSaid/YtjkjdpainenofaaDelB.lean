/-
  A delta made.
-/
import Derived.Test.YtjkjdpainenofaaDelA
namespace Go.Proofs.Ytjkjdpainenofaa.DelB
open Go.Proofs.Ytjkjdpainenofaa.E Go.RowKit Go.Proofs.Ytjkjdpainenofaa.Num Go.Proofs.Ytjkjdpainenofaa.DelA
set_option linter.unusedVariables false
set_option linter.unusedSimpArgs false
set_option linter.unusedSectionVars false
theorem inf22 : Inf Try.prog 22 5 1 1 := ⟨Try.underlying22, _, _, rfl, rfl, rfl, rfl, rfl⟩
theorem inf31 : Inf Try.prog 31 3 1 8 := ⟨Try.underlying31, _, _, rfl, rfl, rfl, rfl, rfl⟩

theorem gd {l : List UInt8} {j : Nat} (h : j < l.length) : l[j] = l.getD j 0 := by simp [h]
theorem u8dec (a b : UInt8) : Value.bool (decide ((a.toNat : Int) = b.toNat)) = .bool (decide (a = b)) := bdec ⟨fun h => UInt8.toNat_inj.1 (by omega), fun h => by rw [h]⟩
/-- a step's head -/
def cp (a n : Nat) : List UInt8 := 1 :: (be32 a ++ be32 n)
def mid (t : List UInt8) (p s : Nat) : List UInt8 := (t.take (t.length - s)).drop p
def mkL (b t : List UInt8) (p s : Nat) : List UInt8 :=
  be32 b.length ++ be32 t.length ++ (if 0 < p then cp 0 p else []) ++ (if 0 < (mid t p s).length then 2 :: be32 (mid t p s).length ++ mid t p s else []) ++ (if 0 < s then cp (b.length - s) s else [])
def fr (b t : List UInt8) (i : Nat) : Bool := decide (b.getD i 0 = t.getD i 0)
def bk (b t : List UInt8) (i : Nat) : Bool := decide (b.getD (b.length - 1 - i) 0 = t.getD (t.length - 1 - i) 0)
/-- how far both are alike from the front, and from the back -/
def Edg (b t : List UInt8) (p s : Nat) : Prop := IsP (min b.length t.length) (fr b t) p ∧ IsP (min b.length t.length - p) (bk b t) s
theorem Edg.one {b t : List UInt8} {p s q r : Nat} (h : Edg b t p s) (k : Edg b t q r) : p = q ∧ s = r := by
  obtain ⟨h1, h2⟩ := h
  obtain ⟨k1, k2⟩ := k
  obtain rfl := h1.one k1
  exact ⟨rfl, h2.one k2⟩

theorem mk1_ct (i : Nat) (b1 b2 : Nat) (v1 v2 : Value) (x y : List UInt8) (w0 : World) (H0 : Heap)
    (va1 : Var 22 H0 b1 [v1]) (va2 : Var 22 H0 b2 [v2]) (hx : RdT H0 fB 1 v1 x) (hy : RdT H0 fB 1 v2 y) (hi : i < x.length ∧ i < y.length) :
    Ct Try.prog w0 18 #[.int .i64 i, .pointer (some ⟨b1, 0, none⟩), .pointer (some ⟨b2, 0, none⟩)] H0 (fun r H2 => r = .bool (fr x y i) ∧ Nw H0 H2) := by
  refine Ct.enter (args := [.int .i64 i, .pointer (some ⟨b1, 0, none⟩), .pointer (some ⟨b2, 0, none⟩)]) Try.func18 rfl rfl rfl ?_
  intro Q0 hret
  have hm0 : Nw H0 H0 := Mo.refl _ _
  have nx_hm0_va1 := Nx.refl (b1 + 1) H0.size
  have hlt_va1 := va1.lt
  have nx_hm0_va2 := Nx.refl (b2 + 1) H0.size
  have hlt_va2 := va2.lt
  replace hx := hx.bnd
  have bf_hx := Rd.bf hx
  replace hy := hy.bnd
  have bf_hy := Rd.bf hy
  have hxl := hx.len
  have hyl := hy.len
  refine CW.seq (fun K1 hK1 hE1 => ?_)
  refine CW.region ?_
  refine LR.v (Y.assign rfl rfl) (Wd.u rfl) rfl rfl ?_
  refine LR.nil ?_
  refine hK1 _ _ ?_
  refine CW.seq (fun K2 hK2 hE2 => ?_)
  refine CW.region_draw rfl (by kernel_rfl) ?_
  refine LR.v (Y.load1 va1.pt rfl Try.isAgg22 rfl) (Wd.u rfl) rfl rfl ?_
  refine LR.v (Y.move rfl rfl) (Wd.u rfl) rfl rfl ?_
  refine LR.e (g := fun ad => .pointer (some ad)) (Y.indexAddr hx (i) rfl Try.runUnderlying22 Try.sizeOf5 rfl rfl (by first | rfl | omega) (by first | omega | (simp; omega) | (simp; done))) (Wd.u rfl) rfl rfl (fun ad7 pt7 => ?_)
  refine LR.v (Y.load1 pt7 rfl Try.isAgg5 rfl) (Wd.u rfl) rfl rfl ?_
  refine LR.v (Y.load1 va2.pt rfl Try.isAgg22 rfl) (Wd.u rfl) rfl rfl ?_
  refine LR.v (Y.move rfl rfl) (Wd.u rfl) rfl rfl ?_
  refine LR.e (g := fun ad => .pointer (some ad)) (Y.indexAddr hy (i) rfl Try.runUnderlying22 Try.sizeOf5 rfl rfl (by first | rfl | omega) (by first | omega | (simp; omega) | (simp; done))) (Wd.u rfl) rfl rfl (fun ad11 pt11 => ?_)
  refine LR.v (Y.load1 pt11 rfl Try.isAgg5 rfl) (Wd.u rfl) rfl rfl ?_
  refine LR.v (Y.cast (v2 := .bool (fr x y i)) (Y.eql rfl rfl rfl) (by rw [u8dec, gd, gd]; rfl)) (Wd.u rfl) rfl rfl ?_
  refine LR.v (Y.assign rfl rfl) (Wd.u rfl) rfl rfl ?_
  refine LR.nil ?_
  refine hK2 _ _ ?_
  refine CW.ret (hret .ret (.inr rfl) _ _ _ (res1 rfl rfl) ?_)
  exact ⟨rfl, hm0⟩

theorem mk2_ct (i : Nat) (b1 b2 : Nat) (v1 v2 : Value) (x y : List UInt8) (w0 : World) (H0 : Heap)
    (va1 : Var 22 H0 b1 [v1]) (va2 : Var 22 H0 b2 [v2]) (hx : RdT H0 fB 1 v1 x) (hy : RdT H0 fB 1 v2 y) (hi : i < x.length ∧ i < y.length) :
    Ct Try.prog w0 19 #[.int .i64 i, .pointer (some ⟨b1, 0, none⟩), .pointer (some ⟨b2, 0, none⟩)] H0 (fun r H2 => r = .bool (bk x y i) ∧ Nw H0 H2) := by
  refine Ct.enter (args := [.int .i64 i, .pointer (some ⟨b1, 0, none⟩), .pointer (some ⟨b2, 0, none⟩)]) Try.func19 rfl rfl rfl ?_
  intro Q0 hret
  have hm0 : Nw H0 H0 := Mo.refl _ _
  have nx_hm0_va1 := Nx.refl (b1 + 1) H0.size
  have hlt_va1 := va1.lt
  have nx_hm0_va2 := Nx.refl (b2 + 1) H0.size
  have hlt_va2 := va2.lt
  replace hx := hx.bnd
  have bf_hx := Rd.bf hx
  replace hy := hy.bnd
  have bf_hy := Rd.bf hy
  have hxl := hx.len
  have hyl := hy.len
  refine CW.seq (fun K1 hK1 hE1 => ?_)
  refine CW.region ?_
  refine LR.v (Y.assign rfl rfl) (Wd.u rfl) rfl rfl ?_
  refine LR.nil ?_
  refine hK1 _ _ ?_
  refine CW.seq (fun K2 hK2 hE2 => ?_)
  refine CW.region_draw rfl (by kernel_rfl) ?_
  refine LR.v (Y.load1 va1.pt rfl Try.isAgg22 rfl) (Wd.u rfl) rfl rfl ?_
  refine LR.v (Y.load1 va1.pt rfl Try.isAgg22 rfl) (Wd.u rfl) rfl rfl ?_
  refine LR.v (Y.len hx rfl Try.runUnderlying22 rfl) (Wd.u rfl) rfl rfl ?_
  refine LR.v (Y.subi rfl rfl rfl (by omega)) (Wd.u rfl) rfl rfl ?_
  refine LR.v (Y.move rfl rfl) (Wd.u rfl) rfl rfl ?_
  refine LR.v (Y.subi rfl rfl rfl (by omega)) (Wd.u rfl) rfl rfl ?_
  refine LR.e (g := fun ad => .pointer (some ad)) (Y.indexAddr hx (x.length - 1 - i) rfl Try.runUnderlying22 Try.sizeOf5 rfl rfl (by omega) (by first | omega | (simp; omega) | (simp; done))) (Wd.u rfl) rfl rfl (fun ad11 pt11 => ?_)
  refine LR.v (Y.load1 pt11 rfl Try.isAgg5 rfl) (Wd.u rfl) rfl rfl ?_
  refine LR.v (Y.load1 va2.pt rfl Try.isAgg22 rfl) (Wd.u rfl) rfl rfl ?_
  refine LR.v (Y.load1 va2.pt rfl Try.isAgg22 rfl) (Wd.u rfl) rfl rfl ?_
  refine LR.v (Y.len hy rfl Try.runUnderlying22 rfl) (Wd.u rfl) rfl rfl ?_
  refine LR.v (Y.subi rfl rfl rfl (by omega)) (Wd.u rfl) rfl rfl ?_
  refine LR.v (Y.move rfl rfl) (Wd.u rfl) rfl rfl ?_
  refine LR.v (Y.subi rfl rfl rfl (by omega)) (Wd.u rfl) rfl rfl ?_
  refine LR.e (g := fun ad => .pointer (some ad)) (Y.indexAddr hy (y.length - 1 - i) rfl Try.runUnderlying22 Try.sizeOf5 rfl rfl (by omega) (by first | omega | (simp; omega) | (simp; done))) (Wd.u rfl) rfl rfl (fun ad19 pt19 => ?_)
  refine LR.v (Y.load1 pt19 rfl Try.isAgg5 rfl) (Wd.u rfl) rfl rfl ?_
  refine LR.v (Y.cast (v2 := .bool (bk x y i)) (Y.eql rfl rfl rfl) (by rw [u8dec, gd, gd]; rfl)) (Wd.u rfl) rfl rfl ?_
  refine LR.v (Y.assign rfl rfl) (Wd.u rfl) rfl rfl ?_
  refine LR.nil ?_
  refine hK2 _ _ ?_
  refine CW.ret (hret .ret (.inr rfl) _ _ _ (res1 rfl rfl) ?_)
  exact ⟨rfl, hm0⟩

set_option maxHeartbeats 4000000 in
theorem make_ct (v1 v2 : Value) (bs tg : List UInt8) (w0 : World) (H0 : Heap)
    (hb : RdT H0 fB 1 v1 bs) (ht : RdT H0 fB 1 v2 tg) (hbl : bs.length ≤ 1048576) (htl : tg.length ≤ 1048576) :
    Ct Try.prog w0 10 #[v1, v2] H0 (fun r H2 => ∃ v : Value, ∃ k : Nat, ∃ p : Nat, ∃ s : Nat, r = v ∧ (Edg bs tg p s) ∧ (Ow k 5 H2 fB 1 v (mkL bs tg p s)) ∧ (Nx 0 H0.size k) ∧ Nw H0 H2) := by
  refine Ct.enter (args := [v1, v2]) Try.func10 rfl rfl rfl ?_
  intro Q0 hret
  have hm0 : Nw H0 H0 := Mo.refl _ _
  replace hb := hb.bnd
  have bf_hb := Rd.bf hb
  replace ht := ht.bnd
  have bf_ht := Rd.bf ht
  refine CW.seq (fun K1 hK1 hE1 => ?_)
  refine CW.region ?_
  refine LR.z (Z.boxv1 rfl rfl (hb.oneCell)) (Wd.u rfl) rfl rfl (fun v2 H2 r2 => ?_)
  obtain ⟨rfl, va2, hs2, ob2, hH2⟩ := r2
  have hzs2 : H2.size = H0.size + 1 := by rw [hH2]; simp
  have df1 := (DF.new (bf_hb.mono hm0.size) : DF _ (H0.size + 1))
  have df2 := (DF.new (bf_ht.mono hm0.size) : DF _ (H0.size + 1))
  have nx3 : Nx 0 H0.size (H0.size + 1) := Nx.new hm0.size
  replace hb := hb.nw hs2
  replace ht := ht.nw hs2
  replace hm0 := hm0.tr hs2
  have hz1 := hs2.size
  refine LR.z (Z.boxv1 rfl rfl (ht.oneCell)) (Wd.u rfl) rfl rfl (fun v3 H3 r3 => ?_)
  obtain ⟨rfl, va3, hs3, ob3, hH3⟩ := r3
  have hzs3 : H3.size = H2.size + 1 := by rw [hH3]; simp
  have df4 := (DF.new (bf_hb.mono hm0.size) : DF _ (H2.size + 1))
  have df5 := (DF.new (bf_ht.mono hm0.size) : DF _ (H2.size + 1))
  have dj6 : Dj (H0.size + 1) (H2.size + 1) := Dj.new va2.lt
  have nx7 : Nx 0 H0.size (H2.size + 1) := Nx.new hm0.size
  replace hb := hb.nw hs3
  replace ht := ht.nw hs3
  replace va2 := va2.nw hs3
  replace hm0 := hm0.tr hs3
  have hz2 := hs3.size
  refine LR.v (Y.assign rfl rfl) (Wd.u rfl) rfl rfl ?_
  refine LR.nil ?_
  refine hK1 _ _ ?_
  refine CW.seq (fun K2 hK2 hE2 => ?_)
  refine CW.region ?_
  refine LR.v (Y.load1 va2.pt rfl Try.isAgg22 rfl) (Wd.u rfl) rfl rfl ?_
  refine LR.v (Y.len hb rfl Try.runUnderlying22 rfl) (Wd.u rfl) rfl rfl ?_
  refine LR.v (Y.load1 va3.pt rfl Try.isAgg22 rfl) (Wd.u rfl) rfl rfl ?_
  refine LR.v (Y.len ht rfl Try.runUnderlying22 rfl) (Wd.u rfl) rfl rfl ?_
  refine LR.v (Y.cast (v2 := .int .i64 ((min bs.length tg.length : Nat) : Int)) (Y.mini rfl rfl rfl) (ivv (by omega))) (Wd.u rfl) rfl rfl ?_
  refine LR.v (Y.assign rfl rfl) (Wd.u rfl) rfl rfl ?_
  refine LR.nil ?_
  refine hK2 _ _ ?_
  refine CW.seq (fun K3 hK3 hE3 => ?_)
  refine CW.region ?_
  refine LR.v (Y.move rfl rfl) (Wd.u rfl) rfl rfl ?_
  refine LR.v (Y.makeFunc rfl rfl) (Wd.u rfl) rfl rfl ?_
  -- call selvage/delta.same
  refine LR.call rfl Try.call17 rfl (Wd.u rfl) rfl rfl (same_ct (min bs.length tg.length) _ (fr bs tg) w0 _ (by omega) (fun i hi H' hnw => Clo.of Try.call18 (mk1_ct i _ _ v1 v2 bs tg w0 H' (va2.nw hnw) (va3.nw hnw) (hb.nw hnw).any (ht.nw hnw).any (by omega)))) (fun v17 H17 r17 => ?_)
  obtain ⟨p, rfl, hp, hs17⟩ := r17
  replace hb := hb.nw hs17
  replace ht := ht.nw hs17
  replace va2 := va2.nw hs17
  replace va3 := va3.nw hs17
  replace hm0 := hm0.tr hs17
  have hz3 := hs17.size
  obtain ⟨hp0, hp1, hp2⟩ := id hp
  refine LR.v (Y.assign rfl rfl) (Wd.u rfl) rfl rfl ?_
  refine LR.nil ?_
  refine hK3 _ _ ?_
  refine CW.seq (fun K4 hK4 hE4 => ?_)
  refine CW.region ?_
  refine LR.v (Y.move rfl rfl) (Wd.u rfl) rfl rfl ?_
  refine LR.v (Y.move rfl rfl) (Wd.u rfl) rfl rfl ?_
  refine LR.v (Y.cast (v2 := .int .i64 ((min bs.length tg.length - p : Nat) : Int)) (Y.subi rfl rfl rfl (by omega)) (ivv (by omega))) (Wd.u rfl) rfl rfl ?_
  refine LR.v (Y.makeFunc rfl rfl) (Wd.u rfl) rfl rfl ?_
  -- call selvage/delta.same
  refine LR.call rfl Try.call17 rfl (Wd.u rfl) rfl rfl (same_ct (min bs.length tg.length - p) _ (bk bs tg) w0 _ (by omega) (fun i hi H' hnw => Clo.of Try.call19 (mk2_ct i _ _ v1 v2 bs tg w0 H' (va2.nw hnw) (va3.nw hnw) (hb.nw hnw).any (ht.nw hnw).any (by omega)))) (fun v22 H22 r22 => ?_)
  obtain ⟨s, rfl, hs, hs22⟩ := r22
  replace hb := hb.nw hs22
  replace ht := ht.nw hs22
  replace va2 := va2.nw hs22
  replace va3 := va3.nw hs22
  replace hm0 := hm0.tr hs22
  have hz4 := hs22.size
  obtain ⟨hs0, hs1, hs2⟩ := id hs
  have hE : Edg bs tg p s := ⟨hp, hs⟩
  have hml : (mid tg p s).length = tg.length - s - p := by simp [mid]
  refine LR.v (Y.assign rfl rfl) (Wd.u rfl) rfl rfl ?_
  refine LR.nil ?_
  refine hK4 _ _ ?_
  refine CW.seq (fun K5 hK5 hE5 => ?_)
  refine CW.region ?_
  refine LR.v (Y.load1 va2.pt rfl Try.isAgg22 rfl) (Wd.u rfl) rfl rfl ?_
  refine LR.v (Y.len hb rfl Try.runUnderlying22 rfl) (Wd.u rfl) rfl rfl ?_
  refine LR.v (Y.load1 va3.pt rfl Try.isAgg22 rfl) (Wd.u rfl) rfl rfl ?_
  refine LR.v (Y.len ht rfl Try.runUnderlying22 rfl) (Wd.u rfl) rfl rfl ?_
  refine LR.z (Z.litw _ (([bs.length, tg.length].map (fun n : Nat => (n : Int)))) rfl inf31 rfl rfl rfl (by decide) (by decide) fI_len fI_one (rfl)) (Wd.u rfl) rfl rfl (fun v27 H27 r27 => ?_)
  obtain ⟨ow27, hs27, ob27, hH27⟩ := r27
  have hzs27 : H27.size = H22.size + 1 := by rw [hH27]; simp
  have df8 := (DF.new (bf_hb.mono hm0.size) : DF _ (H22.size + 1))
  have df9 := (DF.new (bf_ht.mono hm0.size) : DF _ (H22.size + 1))
  have dj10 : Dj (H0.size + 1) (H22.size + 1) := Dj.new va2.lt
  have dj11 : Dj (H2.size + 1) (H22.size + 1) := Dj.new va3.lt
  have nx12 : Nx 0 H0.size (H22.size + 1) := Nx.new hm0.size
  replace hb := hb.nw hs27
  replace ht := ht.nw hs27
  replace va2 := va2.nw hs27
  replace va3 := va3.nw hs27
  replace hm0 := hm0.tr hs27
  have hz5 := hs27.size
  -- call selvage/delta.number
  refine LR.call rfl Try.call20 rfl (Wd.u rfl) rfl rfl (number_ct 0 _ _ [] [bs.length, tg.length] w0 _ (Ow.nil fB_len fB_one) (ow27.rd.imp (fun b _ h => by omega)) (by simp) (by simp)) (fun v28 H28 r28 => ?_)
  obtain ⟨v228, k8, rfl, ow8, hk8, hs28⟩ := r28
  have df13 := DF.app (DF.z) (bf_hb.mono hm0.size) hk8
  have df14 := DF.app (DF.z) (bf_ht.mono hm0.size) hk8
  have dj15 : Dj (H0.size + 1) k8 := Dj.app (Dj.z) va2.lt hk8
  have dj16 : Dj (H2.size + 1) k8 := Dj.app (Dj.z) va3.lt hk8
  have dj17 : Dj (H22.size + 1) k8 := Dj.app (Dj.z) ow27.le hk8
  have nx18 : Nx 0 H0.size k8 := Nx.tr (Nx.refl 0 _) hk8 hm0.size
  replace hb := hb.upL hs28 (DFL.cons DF.z DFL.nil)
  replace ht := ht.upL hs28 (DFL.cons DF.z DFL.nil)
  replace va2 := va2.upL hs28 (DL.cons Dj.z DL.nil)
  replace va3 := va3.upL hs28 (DL.cons Dj.z DL.nil)
  replace ow27 := ow27.upL hs28 (DL.cons Dj.z DL.nil)
  replace hm0 := (Mo.trL (ks := []) (hm0.mdn []) hs28 (MIL.cons MI.z MIL.nil)).nil
  have hz6 := hs28.size
  have hle_ow8 := ow8.le
  simp only [List.nil_append] at ow8
  refine LR.v (Y.assign rfl rfl) (Wd.u rfl) rfl rfl ?_
  refine LR.nil ?_
  refine hK5 _ _ ?_
  refine CW.seq (fun K6 hK6 hE6 => ?_)
  refine CW.seq (fun K7 hK7 hE7 => ?_)
  refine CW.region ?_
  refine LR.v (Y.move rfl rfl) (Wd.u rfl) rfl rfl ?_
  refine LR.v (Y.gtr rfl rfl rfl) (Wd.u rfl) rfl rfl ?_
  refine LR.nil ?_
  refine hK7 _ _ ?_
  refine CW.condp rfl (fun c30 => ?_) (fun c30 => ?_)
  ·
    refine CW.region ?_
    refine LR.v (Y.move rfl rfl) (Wd.u rfl) rfl rfl ?_
    refine LR.z (Z.litw _ ([(1 : UInt8)]) rfl inf22 rfl rfl rfl (by decide) (by decide) fB_len fB_one (rfl)) (Wd.u rfl) rfl rfl (fun v32 H32 r32 => ?_)
    obtain ⟨ow32, hs32, ob32, hH32⟩ := r32
    have hzs32 : H32.size = H28.size + 1 := by rw [hH32]; simp
    have df19 := (DF.new (bf_hb.mono hm0.size) : DF _ (H28.size + 1))
    have df20 := (DF.new (bf_ht.mono hm0.size) : DF _ (H28.size + 1))
    have dj21 : Dj (H0.size + 1) (H28.size + 1) := Dj.new va2.lt
    have dj22 : Dj (H2.size + 1) (H28.size + 1) := Dj.new va3.lt
    have dj23 : Dj k8 (H28.size + 1) := Dj.new ow8.le
    have nx24 : Nx 0 H0.size (H28.size + 1) := Nx.new hm0.size
    replace hb := hb.nw hs32
    replace ht := ht.nw hs32
    replace va2 := va2.nw hs32
    replace va3 := va3.nw hs32
    replace ow8 := ow8.nw hs32
    replace hm0 := hm0.tr hs32
    have hz7 := hs32.size
    refine LR.z (Z.apnd ow8 ow32.rd rfl inf22 rfl rfl (by first | (simp [be32_len, cp]; done) | (simp [be32_len, cp]; omega)) (by first | (simp [be32_len, cp]; done) | (simp [be32_len, cp]; omega))) (Wd.u rfl) rfl rfl (fun v33 H33 r33 => ?_)
    obtain ⟨k33, ow33, hk33, hs33⟩ := r33
    replace hk33 : Nx k8 H32.size k33 := hk33
    replace hs33 := hs33.md
    have df25 := DF.app (df13) (bf_hb.mono hm0.size) hk33
    have df26 := DF.app (df14) (bf_ht.mono hm0.size) hk33
    have dj27 : Dj (H0.size + 1) k33 := Dj.app (dj15) va2.lt hk33
    have dj28 : Dj (H2.size + 1) k33 := Dj.app (dj16) va3.lt hk33
    have dj29 : Dj (H28.size + 1) k33 := Dj.app (dj23.symm) ow32.le hk33
    have nx30 : Nx 0 H0.size k33 := Nx.tr (nx18) hk33 hm0.size
    replace hb := hb.upL hs33 (DFL.cons df13 DFL.nil)
    replace ht := ht.upL hs33 (DFL.cons df14 DFL.nil)
    replace va2 := va2.upL hs33 (DL.cons dj15 DL.nil)
    replace va3 := va3.upL hs33 (DL.cons dj16 DL.nil)
    replace ow32 := ow32.upL hs33 (DL.cons dj23.symm DL.nil)
    replace hm0 := (Mo.trL (ks := []) (hm0.mdn []) hs33 (MIL.cons (MI.app MI.z (nx18) (Nat.le_refl _)) MIL.nil)).nil
    have hz8 := hs33.size
    have hle_ow33 := ow33.le
    refine LR.v (Y.move rfl rfl) (Wd.u rfl) rfl rfl ?_
    refine LR.z (Z.litw _ (([0, p].map (fun n : Nat => (n : Int)))) rfl inf31 rfl rfl rfl (by decide) (by decide) fI_len fI_one (rfl)) (Wd.u rfl) rfl rfl (fun v35 H35 r35 => ?_)
    obtain ⟨ow35, hs35, ob35, hH35⟩ := r35
    have hzs35 : H35.size = H33.size + 1 := by rw [hH35]; simp
    have df31 := (DF.new (bf_hb.mono hm0.size) : DF _ (H33.size + 1))
    have df32 := (DF.new (bf_ht.mono hm0.size) : DF _ (H33.size + 1))
    have dj33 : Dj (H0.size + 1) (H33.size + 1) := Dj.new va2.lt
    have dj34 : Dj (H2.size + 1) (H33.size + 1) := Dj.new va3.lt
    have dj35 : Dj (H28.size + 1) (H33.size + 1) := Dj.new ow32.le
    have dj36 : Dj k33 (H33.size + 1) := Dj.new ow33.le
    have nx37 : Nx 0 H0.size (H33.size + 1) := Nx.new hm0.size
    replace hb := hb.nw hs35
    replace ht := ht.nw hs35
    replace va2 := va2.nw hs35
    replace va3 := va3.nw hs35
    replace ow32 := ow32.nw hs35
    replace ow33 := ow33.nw hs35
    replace hm0 := hm0.tr hs35
    have hz9 := hs35.size
    -- call selvage/delta.number
    refine LR.call rfl Try.call20 rfl (Wd.u rfl) rfl rfl (number_ct k33 _ _ _ [0, p] w0 _ ow33 (ow35.rd.imp (fun b _ h => (dj36.symm) b h)) (by simp) (by simp [be32_len])) (fun v36 H36 r36 => ?_)
    obtain ⟨v236, k9, rfl, ow8, hk9, hs36⟩ := r36
    have df38 := DF.app (df25) (bf_hb.mono hm0.size) hk9
    have df39 := DF.app (df26) (bf_ht.mono hm0.size) hk9
    have dj40 : Dj (H0.size + 1) k9 := Dj.app (dj27) va2.lt hk9
    have dj41 : Dj (H2.size + 1) k9 := Dj.app (dj28) va3.lt hk9
    have dj42 : Dj (H28.size + 1) k9 := Dj.app (dj29) ow32.le hk9
    have dj43 : Dj (H33.size + 1) k9 := Dj.app (dj36.symm) ow35.le hk9
    have nx44 : Nx 0 H0.size k9 := Nx.tr (nx30) hk9 hm0.size
    replace hb := hb.upL hs36 (DFL.cons df25 DFL.nil)
    replace ht := ht.upL hs36 (DFL.cons df26 DFL.nil)
    replace va2 := va2.upL hs36 (DL.cons dj27 DL.nil)
    replace va3 := va3.upL hs36 (DL.cons dj28 DL.nil)
    replace ow32 := ow32.upL hs36 (DL.cons dj29 DL.nil)
    replace ow35 := ow35.upL hs36 (DL.cons dj36.symm DL.nil)
    replace hm0 := (Mo.trL (ks := []) (hm0.mdn []) hs36 (MIL.cons (MI.app MI.z (nx30) (Nat.le_refl _)) MIL.nil)).nil
    have hz10 := hs36.size
    have hle_ow8 := ow8.le
    refine LR.v (Y.assign rfl rfl) (Wd.u rfl) rfl rfl ?_
    refine LR.nil ?_
    refine hK6 _ _ ?_
    refine CW.seq (fun K8 hK8 hE8 => ?_)
    refine CW.seq (fun K9 hK9 hE9 => ?_)
    refine CW.region ?_
    refine LR.v (Y.load1 va3.pt rfl Try.isAgg22 rfl) (Wd.u rfl) rfl rfl ?_
    refine LR.v (Y.move rfl rfl) (Wd.u rfl) rfl rfl ?_
    refine LR.v (Y.load1 va3.pt rfl Try.isAgg22 rfl) (Wd.u rfl) rfl rfl ?_
    refine LR.v (Y.len ht rfl Try.runUnderlying22 rfl) (Wd.u rfl) rfl rfl ?_
    refine LR.v (Y.move rfl rfl) (Wd.u rfl) rfl rfl ?_
    refine LR.v (Y.subi rfl rfl rfl (by omega)) (Wd.u rfl) rfl rfl ?_
    refine LR.v (Y.load1 va3.pt rfl Try.isAgg22 rfl) (Wd.u rfl) rfl rfl ?_
    refine LR.v (Y.len ht rfl Try.runUnderlying22 rfl) (Wd.u rfl) rfl rfl ?_
    refine LR.v (Y.move rfl rfl) (Wd.u rfl) rfl rfl ?_
    refine LR.v (Y.subi rfl rfl rfl (by omega)) (Wd.u rfl) rfl rfl ?_
    refine LR.e (g := fun v => v) (Y.slice3 ht (p) (tg.length - s) (tg.length - s) rfl Try.runUnderlying22 Try.sizeOf5 rfl (.inr ⟨_, _, _, rfl, rfl, by first | rfl | omega⟩) ⟨_, _, _, rfl, rfl, by omega⟩ ⟨_, _, _, rfl, rfl, by omega⟩ (by omega) (by omega) (by omega)) (Wd.u rfl) rfl rfl (fun v47 rd47 => ?_)
    have bf_rd47 := bf_ht
    replace rd47 : Rd _ _ fB 1 v47 (mid tg p s) := rd47
    refine LR.v (Y.assign rfl rfl) (Wd.u rfl) rfl rfl ?_
    refine LR.nil ?_
    refine hK9 _ _ ?_
    refine CW.seq (fun K10 hK10 hE10 => ?_)
    refine CW.region ?_
    refine LR.v (Y.move rfl rfl) (Wd.u rfl) rfl rfl ?_
    refine LR.v (Y.len rd47 rfl Try.runUnderlying22 rfl) (Wd.u rfl) rfl rfl ?_
    refine LR.v (Y.gtr rfl rfl rfl) (Wd.u rfl) rfl rfl ?_
    refine LR.nil ?_
    refine hK10 _ _ ?_
    refine CW.condp rfl (fun c50 => ?_) (fun c50 => ?_)
    ·
      refine CW.region ?_
      refine LR.v (Y.move rfl rfl) (Wd.u rfl) rfl rfl ?_
      refine LR.z (Z.litw _ ([(2 : UInt8)]) rfl inf22 rfl rfl rfl (by decide) (by decide) fB_len fB_one (rfl)) (Wd.u rfl) rfl rfl (fun v52 H52 r52 => ?_)
      obtain ⟨ow52, hs52, ob52, hH52⟩ := r52
      have hzs52 : H52.size = H36.size + 1 := by rw [hH52]; simp
      have df45 := (DF.new (bf_hb.mono hm0.size) : DF _ (H36.size + 1))
      have df46 := (DF.new (bf_ht.mono hm0.size) : DF _ (H36.size + 1))
      have dj47 : Dj (H0.size + 1) (H36.size + 1) := Dj.new va2.lt
      have dj48 : Dj k9 (H36.size + 1) := Dj.new ow8.le
      have df49 := (DF.new (bf_rd47.mono hm0.size) : DF _ (H36.size + 1))
      have nx50 : Nx 0 H0.size (H36.size + 1) := Nx.new hm0.size
      replace hb := hb.nw hs52
      replace ht := ht.nw hs52
      replace va2 := va2.nw hs52
      replace ow8 := ow8.nw hs52
      replace rd47 := rd47.nw hs52
      replace hm0 := hm0.tr hs52
      have hz11 := hs52.size
      refine LR.z (Z.apnd ow8 ow52.rd rfl inf22 rfl rfl (by first | (simp [be32_len, cp]; done) | (simp [be32_len, cp]; omega)) (by first | (simp [be32_len, cp]; done) | (simp [be32_len, cp]; omega))) (Wd.u rfl) rfl rfl (fun v53 H53 r53 => ?_)
      obtain ⟨k53, ow53, hk53, hs53⟩ := r53
      replace hk53 : Nx k9 H52.size k53 := hk53
      replace hs53 := hs53.md
      have df51 := DF.app (df38) (bf_hb.mono hm0.size) hk53
      have df52 := DF.app (df39) (bf_ht.mono hm0.size) hk53
      have dj53 : Dj (H0.size + 1) k53 := Dj.app (dj40) va2.lt hk53
      have df54 := DF.app (df39) (bf_rd47.mono hm0.size) hk53
      have dj55 : Dj (H36.size + 1) k53 := Dj.app (dj48.symm) ow52.le hk53
      have nx56 : Nx 0 H0.size k53 := Nx.tr (nx44) hk53 hm0.size
      replace hb := hb.upL hs53 (DFL.cons df38 DFL.nil)
      replace ht := ht.upL hs53 (DFL.cons df39 DFL.nil)
      replace va2 := va2.upL hs53 (DL.cons dj40 DL.nil)
      replace rd47 := rd47.upL hs53 (DFL.cons df39 DFL.nil)
      replace ow52 := ow52.upL hs53 (DL.cons dj48.symm DL.nil)
      replace hm0 := (Mo.trL (ks := []) (hm0.mdn []) hs53 (MIL.cons (MI.app MI.z (nx44) (Nat.le_refl _)) MIL.nil)).nil
      have hz12 := hs53.size
      have hle_ow53 := ow53.le
      refine LR.v (Y.move rfl rfl) (Wd.u rfl) rfl rfl ?_
      refine LR.v (Y.len rd47 rfl Try.runUnderlying22 rfl) (Wd.u rfl) rfl rfl ?_
      refine LR.z (Z.litw _ (([(mid tg p s).length].map (fun n : Nat => (n : Int)))) rfl inf31 rfl rfl rfl (by decide) (by decide) fI_len fI_one (rfl)) (Wd.u rfl) rfl rfl (fun v56 H56 r56 => ?_)
      obtain ⟨ow56, hs56, ob56, hH56⟩ := r56
      have hzs56 : H56.size = H53.size + 1 := by rw [hH56]; simp
      have df57 := (DF.new (bf_hb.mono hm0.size) : DF _ (H53.size + 1))
      have df58 := (DF.new (bf_ht.mono hm0.size) : DF _ (H53.size + 1))
      have dj59 : Dj (H0.size + 1) (H53.size + 1) := Dj.new va2.lt
      have df60 := (DF.new (bf_rd47.mono hm0.size) : DF _ (H53.size + 1))
      have dj61 : Dj (H36.size + 1) (H53.size + 1) := Dj.new ow52.le
      have dj62 : Dj k53 (H53.size + 1) := Dj.new ow53.le
      have nx63 : Nx 0 H0.size (H53.size + 1) := Nx.new hm0.size
      replace hb := hb.nw hs56
      replace ht := ht.nw hs56
      replace va2 := va2.nw hs56
      replace rd47 := rd47.nw hs56
      replace ow52 := ow52.nw hs56
      replace ow53 := ow53.nw hs56
      replace hm0 := hm0.tr hs56
      have hz13 := hs56.size
      -- call selvage/delta.number
      refine LR.call rfl Try.call20 rfl (Wd.u rfl) rfl rfl (number_ct k53 _ _ _ [(mid tg p s).length] w0 _ ow53 (ow56.rd.imp (fun b _ h => (dj62.symm) b h)) (by simp) (by first | (simp [be32_len, cp]; done) | (simp [be32_len, cp]; omega))) (fun v57 H57 r57 => ?_)
      obtain ⟨v257, k57, rfl, ow57, hk57, hs57⟩ := r57
      have df64 := DF.app (df51) (bf_hb.mono hm0.size) hk57
      have df65 := DF.app (df52) (bf_ht.mono hm0.size) hk57
      have dj66 : Dj (H0.size + 1) k57 := Dj.app (dj53) va2.lt hk57
      have df67 := DF.app (df54) (bf_rd47.mono hm0.size) hk57
      have dj68 : Dj (H36.size + 1) k57 := Dj.app (dj55) ow52.le hk57
      have dj69 : Dj (H53.size + 1) k57 := Dj.app (dj62.symm) ow56.le hk57
      have nx70 : Nx 0 H0.size k57 := Nx.tr (nx56) hk57 hm0.size
      replace hb := hb.upL hs57 (DFL.cons df51 DFL.nil)
      replace ht := ht.upL hs57 (DFL.cons df52 DFL.nil)
      replace va2 := va2.upL hs57 (DL.cons dj53 DL.nil)
      replace rd47 := rd47.upL hs57 (DFL.cons df54 DFL.nil)
      replace ow52 := ow52.upL hs57 (DL.cons dj55 DL.nil)
      replace ow56 := ow56.upL hs57 (DL.cons dj62.symm DL.nil)
      replace hm0 := (Mo.trL (ks := []) (hm0.mdn []) hs57 (MIL.cons (MI.app MI.z (nx56) (Nat.le_refl _)) MIL.nil)).nil
      have hz14 := hs57.size
      have hle_ow57 := ow57.le
      refine LR.v (Y.move rfl rfl) (Wd.u rfl) rfl rfl ?_
      refine LR.z (Z.apnd ow57 rd47 rfl inf22 rfl rfl (by first | (simp [be32_len, cp]; done) | (simp [be32_len, cp]; omega)) (by first | (simp [be32_len, cp]; done) | (simp [be32_len, cp]; omega))) (Wd.u rfl) rfl rfl (fun v59 H59 r59 => ?_)
      obtain ⟨k59, ow8, hk59, hs59⟩ := r59
      replace hk59 : Nx k57 H57.size k59 := hk59
      replace hs59 := hs59.md
      have df71 := DF.app (df64) (bf_hb.mono hm0.size) hk59
      have df72 := DF.app (df65) (bf_ht.mono hm0.size) hk59
      have dj73 : Dj (H0.size + 1) k59 := Dj.app (dj66) va2.lt hk59
      have df74 := DF.app (df67) (bf_rd47.mono hm0.size) hk59
      have dj75 : Dj (H36.size + 1) k59 := Dj.app (dj68) ow52.le hk59
      have dj76 : Dj (H53.size + 1) k59 := Dj.app (dj69) ow56.le hk59
      have nx77 : Nx 0 H0.size k59 := Nx.tr (nx70) hk59 hm0.size
      replace hb := hb.upL hs59 (DFL.cons df64 DFL.nil)
      replace ht := ht.upL hs59 (DFL.cons df65 DFL.nil)
      replace va2 := va2.upL hs59 (DL.cons dj66 DL.nil)
      replace rd47 := rd47.upL hs59 (DFL.cons df67 DFL.nil)
      replace ow52 := ow52.upL hs59 (DL.cons dj68 DL.nil)
      replace ow56 := ow56.upL hs59 (DL.cons dj69 DL.nil)
      replace hm0 := (Mo.trL (ks := []) (hm0.mdn []) hs59 (MIL.cons (MI.app MI.z (nx70) (Nat.le_refl _)) MIL.nil)).nil
      have hz15 := hs59.size
      have hle_ow8 := ow8.le
      refine LR.v (Y.assign rfl rfl) (Wd.u rfl) rfl rfl ?_
      refine LR.nil ?_
      refine hK8 _ _ ?_
      refine CW.seq (fun K11 hK11 hE11 => ?_)
      refine CW.seq (fun K12 hK12 hE12 => ?_)
      refine CW.region ?_
      refine LR.v (Y.move rfl rfl) (Wd.u rfl) rfl rfl ?_
      refine LR.v (Y.gtr rfl rfl rfl) (Wd.u rfl) rfl rfl ?_
      refine LR.nil ?_
      refine hK12 _ _ ?_
      refine CW.condp rfl (fun c61 => ?_) (fun c61 => ?_)
      ·
        refine CW.region_any (fun Hq => Mo (Ms [k59]) H59 Hq) [] rfl ?_
        have hq11 : Mo (Ms [k59]) H59 H59 := Mo.refl _ _
        have nx78 := Nx.refl k59 H59.size
        refine LH.take 0 (by kernel_rfl) rfl (by kernel_rfl) (by kernel_rfl) (by kernel_rfl) (fun Hq hq => Y.move rfl rfl) (Wd.u rfl) rfl rfl hq11 ?_
        refine LH.take 3 (by kernel_rfl) rfl (by kernel_rfl) (by kernel_rfl) (by kernel_rfl) (fun Hq hq => Y.load1 (va2.upL hq (DL.cons dj73 DL.nil)).pt rfl Try.isAgg22 rfl) (Wd.u rfl) rfl rfl hq11 ?_
        refine LH.take 4 (by kernel_rfl) rfl (by kernel_rfl) (by kernel_rfl) (by kernel_rfl) (fun Hq hq => Y.len (hb.upL hq (DFL.cons df71 DFL.nil)) rfl Try.runUnderlying22 rfl) (Wd.u rfl) rfl rfl hq11 ?_
        refine LH.take 5 (by kernel_rfl) rfl (by kernel_rfl) (by kernel_rfl) (by kernel_rfl) (fun Hq hq => Y.move rfl rfl) (Wd.u rfl) rfl rfl hq11 ?_
        refine LH.take 6 (by kernel_rfl) rfl (by kernel_rfl) (by kernel_rfl) (by kernel_rfl) (fun Hq hq => Y.cast (v2 := .int .i64 ((bs.length - s : Nat) : Int)) (Y.subi rfl rfl rfl (by omega)) (ivv (by omega))) (Wd.u rfl) rfl rfl hq11 ?_
        refine LH.take 7 (by kernel_rfl) rfl (by kernel_rfl) (by kernel_rfl) (by kernel_rfl) (fun Hq hq => Y.move rfl rfl) (Wd.u rfl) rfl rfl hq11 ?_
        refine LH.two (i := 1) (j := 8) (by kernel_rfl) ?_ ?_
        ·
          refine LO.z rfl (Z.litw _ ([(1 : UInt8)]) rfl inf22 rfl rfl rfl (by decide) (by decide) fB_len fB_one (rfl)) (Wd.u rfl) rfl rfl (fun v63 H63 r63 => ?_)
          obtain ⟨ow63, hs63, ob63, hH63⟩ := r63
          have hzs63 : H63.size = H59.size + 1 := by rw [hH63]; simp
          have df79 := (DF.new (bf_hb.mono hm0.size) : DF _ (H59.size + 1))
          have df80 := (DF.new (bf_ht.mono hm0.size) : DF _ (H59.size + 1))
          have dj81 : Dj (H0.size + 1) (H59.size + 1) := Dj.new va2.lt
          have dj82 : Dj k59 (H59.size + 1) := Dj.new ow8.le
          have nx83 : Nx 0 H0.size (H59.size + 1) := Nx.new hm0.size
          have nx84 : Nx 0 H59.size (H59.size + 1) := Nx.new hq11.size
          replace hb := hb.nw hs63
          replace ht := ht.nw hs63
          replace va2 := va2.nw hs63
          replace ow8 := ow8.nw hs63
          replace hm0 := hm0.tr hs63
          replace hq11 := hq11.trN hs63
          have hz16 := hs63.size
          refine ⟨.inr hq11, LH.narrow (SH2 := fun Hq => Mo (Ms [k59]) H63 Hq) (fun Hq hq => hq11.trL hq (MIL.cons (MI.app (MI.root (by simp)) (nx78) (Nat.le_refl _)) MIL.nil)) ?_⟩
          have hq11 : Mo (Ms [k59]) H63 H63 := Mo.refl _ _
          have nx85 := Nx.refl k59 H63.size
          refine LH.two (i := 2) (j := 8) (by kernel_rfl) ?_ ?_
          ·
            refine LO.z rfl (Z.apnd ow8 ow63.rd rfl inf22 rfl rfl (by first | (simp [be32_len, cp]; done) | (simp [be32_len, cp]; omega)) (by first | (simp [be32_len, cp]; done) | (simp [be32_len, cp]; omega))) (Wd.u rfl) rfl rfl (fun v64 H64 r64 => ?_)
            obtain ⟨k64, ow64, hk64, hs64⟩ := r64
            replace hk64 : Nx k59 H63.size k64 := hk64
            replace hs64 := hs64.md
            have df86 := DF.app (df71) (bf_hb.mono hm0.size) hk64
            have df87 := DF.app (df72) (bf_ht.mono hm0.size) hk64
            have dj88 : Dj (H0.size + 1) k64 := Dj.app (dj73) va2.lt hk64
            have dj89 : Dj (H59.size + 1) k64 := Dj.app (dj82.symm) ow63.le hk64
            have nx90 : Nx 0 H0.size k64 := Nx.tr (nx77) hk64 hm0.size
            have nx91 : Nx k59 H63.size k64 := Nx.tr (nx85) hk64 hq11.size
            replace hb := hb.upL hs64 (DFL.cons df71 DFL.nil)
            replace ht := ht.upL hs64 (DFL.cons df72 DFL.nil)
            replace va2 := va2.upL hs64 (DL.cons dj73 DL.nil)
            replace ow63 := ow63.upL hs64 (DL.cons dj82.symm DL.nil)
            replace hm0 := (Mo.trL (ks := []) (hm0.mdn []) hs64 (MIL.cons (MI.app MI.z (nx77) (Nat.le_refl _)) MIL.nil)).nil
            replace hq11 := hq11.trL hs64 (MIL.cons (MI.app (MI.root (by simp)) (nx85) (Nat.le_refl _)) MIL.nil)
            have hz17 := hs64.size
            have hle_ow64 := ow64.le
            refine ⟨.inr hq11, LH.narrow (SH2 := fun Hq => Mo (Ms [k64]) H64 Hq) (fun Hq hq => hq11.trL hq (MIL.cons (MI.app (MI.root (by simp)) (nx91) (Nat.le_refl _)) MIL.nil)) ?_⟩
            have hq11 : Mo (Ms [k64]) H64 H64 := Mo.refl _ _
            have nx92 := Nx.refl k64 H64.size
            refine LH.one (i := 8) (by kernel_rfl) ?_
            refine LO.z rfl (Z.litw _ (([bs.length - s, s].map (fun n : Nat => (n : Int)))) rfl inf31 rfl rfl rfl (by decide) (by decide) fI_len fI_one (rfl)) (Wd.u rfl) rfl rfl (fun v70 H70 r70 => ?_)
            obtain ⟨ow70, hs70, ob70, hH70⟩ := r70
            have hzs70 : H70.size = H64.size + 1 := by rw [hH70]; simp
            have df93 := (DF.new (bf_hb.mono hm0.size) : DF _ (H64.size + 1))
            have df94 := (DF.new (bf_ht.mono hm0.size) : DF _ (H64.size + 1))
            have dj95 : Dj (H0.size + 1) (H64.size + 1) := Dj.new va2.lt
            have dj96 : Dj (H59.size + 1) (H64.size + 1) := Dj.new ow63.le
            have dj97 : Dj k64 (H64.size + 1) := Dj.new ow64.le
            have nx98 : Nx 0 H0.size (H64.size + 1) := Nx.new hm0.size
            have nx99 : Nx 0 H64.size (H64.size + 1) := Nx.new hq11.size
            replace hb := hb.nw hs70
            replace ht := ht.nw hs70
            replace va2 := va2.nw hs70
            replace ow63 := ow63.nw hs70
            replace ow64 := ow64.nw hs70
            replace hm0 := hm0.tr hs70
            replace hq11 := hq11.trN hs70
            have hz18 := hs70.size
            refine ⟨.inr hq11, LH.narrow (SH2 := fun Hq => Mo (Ms [k64]) H70 Hq) (fun Hq hq => hq11.trL hq (MIL.cons (MI.app (MI.root (by simp)) (nx92) (Nat.le_refl _)) MIL.nil)) ?_⟩
            have hq11 : Mo (Ms [k64]) H70 H70 := Mo.refl _ _
            have nx100 := Nx.refl k64 H70.size
            refine LH.one (i := 9) (by kernel_rfl) ?_
            -- call selvage/delta.number
            refine LO.call rfl rfl Try.call20 rfl (Wd.u rfl) rfl rfl (number_ct k64 _ _ _ [bs.length - s, s] w0 _ ow64 (ow70.rd.imp (fun b _ h => (dj97.symm) b h)) (by simp) (by first | (simp [be32_len, cp]; done) | (simp [be32_len, cp]; omega))) (fun v71 H71 r71 => ?_)
            obtain ⟨v271, k71, rfl, ow8, hk71, hs71⟩ := r71
            have df101 := DF.app (df86) (bf_hb.mono hm0.size) hk71
            have df102 := DF.app (df87) (bf_ht.mono hm0.size) hk71
            have dj103 : Dj (H0.size + 1) k71 := Dj.app (dj88) va2.lt hk71
            have dj104 : Dj (H59.size + 1) k71 := Dj.app (dj89) ow63.le hk71
            have dj105 : Dj (H64.size + 1) k71 := Dj.app (dj97.symm) ow70.le hk71
            have nx106 : Nx 0 H0.size k71 := Nx.tr (nx90) hk71 hm0.size
            have nx107 : Nx k64 H70.size k71 := Nx.tr (nx100) hk71 hq11.size
            replace hb := hb.upL hs71 (DFL.cons df86 DFL.nil)
            replace ht := ht.upL hs71 (DFL.cons df87 DFL.nil)
            replace va2 := va2.upL hs71 (DL.cons dj88 DL.nil)
            replace ow63 := ow63.upL hs71 (DL.cons dj89 DL.nil)
            replace ow70 := ow70.upL hs71 (DL.cons dj97.symm DL.nil)
            replace hm0 := (Mo.trL (ks := []) (hm0.mdn []) hs71 (MIL.cons (MI.app MI.z (nx90) (Nat.le_refl _)) MIL.nil)).nil
            replace hq11 := hq11.trL hs71 (MIL.cons (MI.app (MI.root (by simp)) (nx100) (Nat.le_refl _)) MIL.nil)
            have hz19 := hs71.size
            have hle_ow8 := ow8.le
            refine ⟨.inr hq11, LH.narrow (SH2 := fun Hq => Mo (Ms [k71]) H71 Hq) (fun Hq hq => hq11.trL hq (MIL.cons (MI.app (MI.root (by simp)) (nx107) (Nat.le_refl _)) MIL.nil)) ?_⟩
            have hq11 : Mo (Ms [k71]) H71 H71 := Mo.refl _ _
            have nx108 := Nx.refl k71 H71.size
            refine LH.take 10 (by kernel_rfl) rfl (by kernel_rfl) (by kernel_rfl) (by kernel_rfl) (fun Hq hq => Y.assign rfl rfl) (Wd.u rfl) rfl rfl hq11 ?_
            refine LH.done (by kernel_rfl) ?_
            refine hK11 _ _ ?_
            refine CW.seq (fun K13 hK13 hE13 => ?_)
            refine CW.region ?_
            refine LR.v (Y.move rfl rfl) (Wd.u rfl) rfl rfl ?_
            refine LR.v (Y.assign rfl rfl) (Wd.u rfl) rfl rfl ?_
            refine LR.nil ?_
            refine hK13 _ _ ?_
            refine CW.ret (hret .ret (.inr rfl) _ _ _ (res1 rfl rfl) ?_)
            exact ⟨_, k71, p, s, rfl, hE, by
                unfold mkL
                first | rw [if_pos (show 0 < p by omega)] | rw [if_neg (show ¬ 0 < p by omega)]
                first | rw [if_pos (show 0 < (mid tg p s).length by omega)] | rw [if_neg (show ¬ 0 < (mid tg p s).length by omega)]
                first | rw [if_pos (show 0 < s by omega)] | rw [if_neg (show ¬ 0 < s by omega)]
                simpa [cp] using ow8, nx106, hm0⟩
          ·
            refine LO.z rfl (Z.litw _ (([bs.length - s, s].map (fun n : Nat => (n : Int)))) rfl inf31 rfl rfl rfl (by decide) (by decide) fI_len fI_one (rfl)) (Wd.u rfl) rfl rfl (fun v70 H70 r70 => ?_)
            obtain ⟨ow70, hs70, ob70, hH70⟩ := r70
            have hzs70 : H70.size = H63.size + 1 := by rw [hH70]; simp
            have df109 := (DF.new (bf_hb.mono hm0.size) : DF _ (H63.size + 1))
            have df110 := (DF.new (bf_ht.mono hm0.size) : DF _ (H63.size + 1))
            have dj111 : Dj (H0.size + 1) (H63.size + 1) := Dj.new va2.lt
            have dj112 : Dj k59 (H63.size + 1) := Dj.new ow8.le
            have dj113 : Dj (H59.size + 1) (H63.size + 1) := Dj.new ow63.le
            have nx114 : Nx 0 H0.size (H63.size + 1) := Nx.new hm0.size
            have nx115 : Nx 0 H63.size (H63.size + 1) := Nx.new hq11.size
            replace hb := hb.nw hs70
            replace ht := ht.nw hs70
            replace va2 := va2.nw hs70
            replace ow8 := ow8.nw hs70
            replace ow63 := ow63.nw hs70
            replace hm0 := hm0.tr hs70
            replace hq11 := hq11.trN hs70
            have hz20 := hs70.size
            refine ⟨.inr hq11, LH.narrow (SH2 := fun Hq => Mo (Ms [k59]) H70 Hq) (fun Hq hq => hq11.trL hq (MIL.cons (MI.app (MI.root (by simp)) (nx85) (Nat.le_refl _)) MIL.nil)) ?_⟩
            have hq11 : Mo (Ms [k59]) H70 H70 := Mo.refl _ _
            have nx116 := Nx.refl k59 H70.size
            refine LH.one (i := 2) (by kernel_rfl) ?_
            refine LO.z rfl (Z.apnd ow8 ow63.rd rfl inf22 rfl rfl (by first | (simp [be32_len, cp]; done) | (simp [be32_len, cp]; omega)) (by first | (simp [be32_len, cp]; done) | (simp [be32_len, cp]; omega))) (Wd.u rfl) rfl rfl (fun v64 H64 r64 => ?_)
            obtain ⟨k64, ow64, hk64, hs64⟩ := r64
            replace hk64 : Nx k59 H70.size k64 := hk64
            replace hs64 := hs64.md
            have df117 := DF.app (df71) (bf_hb.mono hm0.size) hk64
            have df118 := DF.app (df72) (bf_ht.mono hm0.size) hk64
            have dj119 : Dj (H0.size + 1) k64 := Dj.app (dj73) va2.lt hk64
            have dj120 : Dj (H59.size + 1) k64 := Dj.app (dj82.symm) ow63.le hk64
            have dj121 : Dj (H63.size + 1) k64 := Dj.app (dj112.symm) ow70.le hk64
            have nx122 : Nx 0 H0.size k64 := Nx.tr (nx77) hk64 hm0.size
            have nx123 : Nx k59 H70.size k64 := Nx.tr (nx116) hk64 hq11.size
            replace hb := hb.upL hs64 (DFL.cons df71 DFL.nil)
            replace ht := ht.upL hs64 (DFL.cons df72 DFL.nil)
            replace va2 := va2.upL hs64 (DL.cons dj73 DL.nil)
            replace ow63 := ow63.upL hs64 (DL.cons dj82.symm DL.nil)
            replace ow70 := ow70.upL hs64 (DL.cons dj112.symm DL.nil)
            replace hm0 := (Mo.trL (ks := []) (hm0.mdn []) hs64 (MIL.cons (MI.app MI.z (nx77) (Nat.le_refl _)) MIL.nil)).nil
            replace hq11 := hq11.trL hs64 (MIL.cons (MI.app (MI.root (by simp)) (nx116) (Nat.le_refl _)) MIL.nil)
            have hz21 := hs64.size
            have hle_ow64 := ow64.le
            refine ⟨.inr hq11, LH.narrow (SH2 := fun Hq => Mo (Ms [k64]) H64 Hq) (fun Hq hq => hq11.trL hq (MIL.cons (MI.app (MI.root (by simp)) (nx123) (Nat.le_refl _)) MIL.nil)) ?_⟩
            have hq11 : Mo (Ms [k64]) H64 H64 := Mo.refl _ _
            have nx124 := Nx.refl k64 H64.size
            refine LH.one (i := 9) (by kernel_rfl) ?_
            -- call selvage/delta.number
            refine LO.call rfl rfl Try.call20 rfl (Wd.u rfl) rfl rfl (number_ct k64 _ _ _ [bs.length - s, s] w0 _ ow64 (ow70.rd.imp (fun b _ h => (dj121) b h)) (by simp) (by first | (simp [be32_len, cp]; done) | (simp [be32_len, cp]; omega))) (fun v71 H71 r71 => ?_)
            obtain ⟨v271, k71, rfl, ow8, hk71, hs71⟩ := r71
            have df125 := DF.app (df117) (bf_hb.mono hm0.size) hk71
            have df126 := DF.app (df118) (bf_ht.mono hm0.size) hk71
            have dj127 : Dj (H0.size + 1) k71 := Dj.app (dj119) va2.lt hk71
            have dj128 : Dj (H59.size + 1) k71 := Dj.app (dj120) ow63.le hk71
            have dj129 : Dj (H63.size + 1) k71 := Dj.app (dj121) ow70.le hk71
            have nx130 : Nx 0 H0.size k71 := Nx.tr (nx122) hk71 hm0.size
            have nx131 : Nx k64 H64.size k71 := Nx.tr (nx124) hk71 hq11.size
            replace hb := hb.upL hs71 (DFL.cons df117 DFL.nil)
            replace ht := ht.upL hs71 (DFL.cons df118 DFL.nil)
            replace va2 := va2.upL hs71 (DL.cons dj119 DL.nil)
            replace ow63 := ow63.upL hs71 (DL.cons dj120 DL.nil)
            replace ow70 := ow70.upL hs71 (DL.cons dj121 DL.nil)
            replace hm0 := (Mo.trL (ks := []) (hm0.mdn []) hs71 (MIL.cons (MI.app MI.z (nx122) (Nat.le_refl _)) MIL.nil)).nil
            replace hq11 := hq11.trL hs71 (MIL.cons (MI.app (MI.root (by simp)) (nx124) (Nat.le_refl _)) MIL.nil)
            have hz22 := hs71.size
            have hle_ow8 := ow8.le
            refine ⟨.inr hq11, LH.narrow (SH2 := fun Hq => Mo (Ms [k71]) H71 Hq) (fun Hq hq => hq11.trL hq (MIL.cons (MI.app (MI.root (by simp)) (nx131) (Nat.le_refl _)) MIL.nil)) ?_⟩
            have hq11 : Mo (Ms [k71]) H71 H71 := Mo.refl _ _
            have nx132 := Nx.refl k71 H71.size
            refine LH.take 10 (by kernel_rfl) rfl (by kernel_rfl) (by kernel_rfl) (by kernel_rfl) (fun Hq hq => Y.assign rfl rfl) (Wd.u rfl) rfl rfl hq11 ?_
            refine LH.done (by kernel_rfl) ?_
            refine hK11 _ _ ?_
            refine CW.seq (fun K14 hK14 hE14 => ?_)
            refine CW.region ?_
            refine LR.v (Y.move rfl rfl) (Wd.u rfl) rfl rfl ?_
            refine LR.v (Y.assign rfl rfl) (Wd.u rfl) rfl rfl ?_
            refine LR.nil ?_
            refine hK14 _ _ ?_
            refine CW.ret (hret .ret (.inr rfl) _ _ _ (res1 rfl rfl) ?_)
            exact ⟨_, k71, p, s, rfl, hE, by
                unfold mkL
                first | rw [if_pos (show 0 < p by omega)] | rw [if_neg (show ¬ 0 < p by omega)]
                first | rw [if_pos (show 0 < (mid tg p s).length by omega)] | rw [if_neg (show ¬ 0 < (mid tg p s).length by omega)]
                first | rw [if_pos (show 0 < s by omega)] | rw [if_neg (show ¬ 0 < s by omega)]
                simpa [cp] using ow8, nx130, hm0⟩
        ·
          refine LO.z rfl (Z.litw _ (([bs.length - s, s].map (fun n : Nat => (n : Int)))) rfl inf31 rfl rfl rfl (by decide) (by decide) fI_len fI_one (rfl)) (Wd.u rfl) rfl rfl (fun v70 H70 r70 => ?_)
          obtain ⟨ow70, hs70, ob70, hH70⟩ := r70
          have hzs70 : H70.size = H59.size + 1 := by rw [hH70]; simp
          have df133 := (DF.new (bf_hb.mono hm0.size) : DF _ (H59.size + 1))
          have df134 := (DF.new (bf_ht.mono hm0.size) : DF _ (H59.size + 1))
          have dj135 : Dj (H0.size + 1) (H59.size + 1) := Dj.new va2.lt
          have dj136 : Dj k59 (H59.size + 1) := Dj.new ow8.le
          have nx137 : Nx 0 H0.size (H59.size + 1) := Nx.new hm0.size
          have nx138 : Nx 0 H59.size (H59.size + 1) := Nx.new hq11.size
          replace hb := hb.nw hs70
          replace ht := ht.nw hs70
          replace va2 := va2.nw hs70
          replace ow8 := ow8.nw hs70
          replace hm0 := hm0.tr hs70
          replace hq11 := hq11.trN hs70
          have hz23 := hs70.size
          refine ⟨.inr hq11, LH.narrow (SH2 := fun Hq => Mo (Ms [k59]) H70 Hq) (fun Hq hq => hq11.trL hq (MIL.cons (MI.app (MI.root (by simp)) (nx78) (Nat.le_refl _)) MIL.nil)) ?_⟩
          have hq11 : Mo (Ms [k59]) H70 H70 := Mo.refl _ _
          have nx139 := Nx.refl k59 H70.size
          refine LH.one (i := 1) (by kernel_rfl) ?_
          refine LO.z rfl (Z.litw _ ([(1 : UInt8)]) rfl inf22 rfl rfl rfl (by decide) (by decide) fB_len fB_one (rfl)) (Wd.u rfl) rfl rfl (fun v63 H63 r63 => ?_)
          obtain ⟨ow63, hs63, ob63, hH63⟩ := r63
          have hzs63 : H63.size = H70.size + 1 := by rw [hH63]; simp
          have df140 := (DF.new (bf_hb.mono hm0.size) : DF _ (H70.size + 1))
          have df141 := (DF.new (bf_ht.mono hm0.size) : DF _ (H70.size + 1))
          have dj142 : Dj (H0.size + 1) (H70.size + 1) := Dj.new va2.lt
          have dj143 : Dj k59 (H70.size + 1) := Dj.new ow8.le
          have dj144 : Dj (H59.size + 1) (H70.size + 1) := Dj.new ow70.le
          have nx145 : Nx 0 H0.size (H70.size + 1) := Nx.new hm0.size
          have nx146 : Nx 0 H70.size (H70.size + 1) := Nx.new hq11.size
          replace hb := hb.nw hs63
          replace ht := ht.nw hs63
          replace va2 := va2.nw hs63
          replace ow8 := ow8.nw hs63
          replace ow70 := ow70.nw hs63
          replace hm0 := hm0.tr hs63
          replace hq11 := hq11.trN hs63
          have hz24 := hs63.size
          refine ⟨.inr hq11, LH.narrow (SH2 := fun Hq => Mo (Ms [k59]) H63 Hq) (fun Hq hq => hq11.trL hq (MIL.cons (MI.app (MI.root (by simp)) (nx139) (Nat.le_refl _)) MIL.nil)) ?_⟩
          have hq11 : Mo (Ms [k59]) H63 H63 := Mo.refl _ _
          have nx147 := Nx.refl k59 H63.size
          refine LH.one (i := 2) (by kernel_rfl) ?_
          refine LO.z rfl (Z.apnd ow8 ow63.rd rfl inf22 rfl rfl (by first | (simp [be32_len, cp]; done) | (simp [be32_len, cp]; omega)) (by first | (simp [be32_len, cp]; done) | (simp [be32_len, cp]; omega))) (Wd.u rfl) rfl rfl (fun v64 H64 r64 => ?_)
          obtain ⟨k64, ow64, hk64, hs64⟩ := r64
          replace hk64 : Nx k59 H63.size k64 := hk64
          replace hs64 := hs64.md
          have df148 := DF.app (df71) (bf_hb.mono hm0.size) hk64
          have df149 := DF.app (df72) (bf_ht.mono hm0.size) hk64
          have dj150 : Dj (H0.size + 1) k64 := Dj.app (dj73) va2.lt hk64
          have dj151 : Dj (H59.size + 1) k64 := Dj.app (dj136.symm) ow70.le hk64
          have dj152 : Dj (H70.size + 1) k64 := Dj.app (dj143.symm) ow63.le hk64
          have nx153 : Nx 0 H0.size k64 := Nx.tr (nx77) hk64 hm0.size
          have nx154 : Nx k59 H63.size k64 := Nx.tr (nx147) hk64 hq11.size
          replace hb := hb.upL hs64 (DFL.cons df71 DFL.nil)
          replace ht := ht.upL hs64 (DFL.cons df72 DFL.nil)
          replace va2 := va2.upL hs64 (DL.cons dj73 DL.nil)
          replace ow70 := ow70.upL hs64 (DL.cons dj136.symm DL.nil)
          replace ow63 := ow63.upL hs64 (DL.cons dj143.symm DL.nil)
          replace hm0 := (Mo.trL (ks := []) (hm0.mdn []) hs64 (MIL.cons (MI.app MI.z (nx77) (Nat.le_refl _)) MIL.nil)).nil
          replace hq11 := hq11.trL hs64 (MIL.cons (MI.app (MI.root (by simp)) (nx147) (Nat.le_refl _)) MIL.nil)
          have hz25 := hs64.size
          have hle_ow64 := ow64.le
          refine ⟨.inr hq11, LH.narrow (SH2 := fun Hq => Mo (Ms [k64]) H64 Hq) (fun Hq hq => hq11.trL hq (MIL.cons (MI.app (MI.root (by simp)) (nx154) (Nat.le_refl _)) MIL.nil)) ?_⟩
          have hq11 : Mo (Ms [k64]) H64 H64 := Mo.refl _ _
          have nx155 := Nx.refl k64 H64.size
          refine LH.one (i := 9) (by kernel_rfl) ?_
          -- call selvage/delta.number
          refine LO.call rfl rfl Try.call20 rfl (Wd.u rfl) rfl rfl (number_ct k64 _ _ _ [bs.length - s, s] w0 _ ow64 (ow70.rd.imp (fun b _ h => (dj151) b h)) (by simp) (by first | (simp [be32_len, cp]; done) | (simp [be32_len, cp]; omega))) (fun v71 H71 r71 => ?_)
          obtain ⟨v271, k71, rfl, ow8, hk71, hs71⟩ := r71
          have df156 := DF.app (df148) (bf_hb.mono hm0.size) hk71
          have df157 := DF.app (df149) (bf_ht.mono hm0.size) hk71
          have dj158 : Dj (H0.size + 1) k71 := Dj.app (dj150) va2.lt hk71
          have dj159 : Dj (H59.size + 1) k71 := Dj.app (dj151) ow70.le hk71
          have dj160 : Dj (H70.size + 1) k71 := Dj.app (dj152) ow63.le hk71
          have nx161 : Nx 0 H0.size k71 := Nx.tr (nx153) hk71 hm0.size
          have nx162 : Nx k64 H64.size k71 := Nx.tr (nx155) hk71 hq11.size
          replace hb := hb.upL hs71 (DFL.cons df148 DFL.nil)
          replace ht := ht.upL hs71 (DFL.cons df149 DFL.nil)
          replace va2 := va2.upL hs71 (DL.cons dj150 DL.nil)
          replace ow70 := ow70.upL hs71 (DL.cons dj151 DL.nil)
          replace ow63 := ow63.upL hs71 (DL.cons dj152 DL.nil)
          replace hm0 := (Mo.trL (ks := []) (hm0.mdn []) hs71 (MIL.cons (MI.app MI.z (nx153) (Nat.le_refl _)) MIL.nil)).nil
          replace hq11 := hq11.trL hs71 (MIL.cons (MI.app (MI.root (by simp)) (nx155) (Nat.le_refl _)) MIL.nil)
          have hz26 := hs71.size
          have hle_ow8 := ow8.le
          refine ⟨.inr hq11, LH.narrow (SH2 := fun Hq => Mo (Ms [k71]) H71 Hq) (fun Hq hq => hq11.trL hq (MIL.cons (MI.app (MI.root (by simp)) (nx162) (Nat.le_refl _)) MIL.nil)) ?_⟩
          have hq11 : Mo (Ms [k71]) H71 H71 := Mo.refl _ _
          have nx163 := Nx.refl k71 H71.size
          refine LH.take 10 (by kernel_rfl) rfl (by kernel_rfl) (by kernel_rfl) (by kernel_rfl) (fun Hq hq => Y.assign rfl rfl) (Wd.u rfl) rfl rfl hq11 ?_
          refine LH.done (by kernel_rfl) ?_
          refine hK11 _ _ ?_
          refine CW.seq (fun K15 hK15 hE15 => ?_)
          refine CW.region ?_
          refine LR.v (Y.move rfl rfl) (Wd.u rfl) rfl rfl ?_
          refine LR.v (Y.assign rfl rfl) (Wd.u rfl) rfl rfl ?_
          refine LR.nil ?_
          refine hK15 _ _ ?_
          refine CW.ret (hret .ret (.inr rfl) _ _ _ (res1 rfl rfl) ?_)
          exact ⟨_, k71, p, s, rfl, hE, by
              unfold mkL
              first | rw [if_pos (show 0 < p by omega)] | rw [if_neg (show ¬ 0 < p by omega)]
              first | rw [if_pos (show 0 < (mid tg p s).length by omega)] | rw [if_neg (show ¬ 0 < (mid tg p s).length by omega)]
              first | rw [if_pos (show 0 < s by omega)] | rw [if_neg (show ¬ 0 < s by omega)]
              simpa [cp] using ow8, nx161, hm0⟩
      ·
        refine CW.skip ?_
        refine hK11 _ _ ?_
        refine CW.seq (fun K16 hK16 hE16 => ?_)
        refine CW.region ?_
        refine LR.v (Y.move rfl rfl) (Wd.u rfl) rfl rfl ?_
        refine LR.v (Y.assign rfl rfl) (Wd.u rfl) rfl rfl ?_
        refine LR.nil ?_
        refine hK16 _ _ ?_
        refine CW.ret (hret .ret (.inr rfl) _ _ _ (res1 rfl rfl) ?_)
        exact ⟨_, k59, p, s, rfl, hE, by
            unfold mkL
            first | rw [if_pos (show 0 < p by omega)] | rw [if_neg (show ¬ 0 < p by omega)]
            first | rw [if_pos (show 0 < (mid tg p s).length by omega)] | rw [if_neg (show ¬ 0 < (mid tg p s).length by omega)]
            first | rw [if_pos (show 0 < s by omega)] | rw [if_neg (show ¬ 0 < s by omega)]
            simpa [cp] using ow8, nx77, hm0⟩
    ·
      refine CW.skip ?_
      refine hK8 _ _ ?_
      refine CW.seq (fun K17 hK17 hE17 => ?_)
      refine CW.seq (fun K18 hK18 hE18 => ?_)
      refine CW.region ?_
      refine LR.v (Y.move rfl rfl) (Wd.u rfl) rfl rfl ?_
      refine LR.v (Y.gtr rfl rfl rfl) (Wd.u rfl) rfl rfl ?_
      refine LR.nil ?_
      refine hK18 _ _ ?_
      refine CW.condp rfl (fun c61 => ?_) (fun c61 => ?_)
      ·
        refine CW.region_any (fun Hq => Mo (Ms [k9]) H36 Hq) [] rfl ?_
        have hq11 : Mo (Ms [k9]) H36 H36 := Mo.refl _ _
        have nx164 := Nx.refl k9 H36.size
        refine LH.take 0 (by kernel_rfl) rfl (by kernel_rfl) (by kernel_rfl) (by kernel_rfl) (fun Hq hq => Y.move rfl rfl) (Wd.u rfl) rfl rfl hq11 ?_
        refine LH.take 3 (by kernel_rfl) rfl (by kernel_rfl) (by kernel_rfl) (by kernel_rfl) (fun Hq hq => Y.load1 (va2.upL hq (DL.cons dj40 DL.nil)).pt rfl Try.isAgg22 rfl) (Wd.u rfl) rfl rfl hq11 ?_
        refine LH.take 4 (by kernel_rfl) rfl (by kernel_rfl) (by kernel_rfl) (by kernel_rfl) (fun Hq hq => Y.len (hb.upL hq (DFL.cons df38 DFL.nil)) rfl Try.runUnderlying22 rfl) (Wd.u rfl) rfl rfl hq11 ?_
        refine LH.take 5 (by kernel_rfl) rfl (by kernel_rfl) (by kernel_rfl) (by kernel_rfl) (fun Hq hq => Y.move rfl rfl) (Wd.u rfl) rfl rfl hq11 ?_
        refine LH.take 6 (by kernel_rfl) rfl (by kernel_rfl) (by kernel_rfl) (by kernel_rfl) (fun Hq hq => Y.cast (v2 := .int .i64 ((bs.length - s : Nat) : Int)) (Y.subi rfl rfl rfl (by omega)) (ivv (by omega))) (Wd.u rfl) rfl rfl hq11 ?_
        refine LH.take 7 (by kernel_rfl) rfl (by kernel_rfl) (by kernel_rfl) (by kernel_rfl) (fun Hq hq => Y.move rfl rfl) (Wd.u rfl) rfl rfl hq11 ?_
        refine LH.two (i := 1) (j := 8) (by kernel_rfl) ?_ ?_
        ·
          refine LO.z rfl (Z.litw _ ([(1 : UInt8)]) rfl inf22 rfl rfl rfl (by decide) (by decide) fB_len fB_one (rfl)) (Wd.u rfl) rfl rfl (fun v63 H63 r63 => ?_)
          obtain ⟨ow63, hs63, ob63, hH63⟩ := r63
          have hzs63 : H63.size = H36.size + 1 := by rw [hH63]; simp
          have df165 := (DF.new (bf_hb.mono hm0.size) : DF _ (H36.size + 1))
          have df166 := (DF.new (bf_ht.mono hm0.size) : DF _ (H36.size + 1))
          have dj167 : Dj (H0.size + 1) (H36.size + 1) := Dj.new va2.lt
          have dj168 : Dj k9 (H36.size + 1) := Dj.new ow8.le
          have nx169 : Nx 0 H0.size (H36.size + 1) := Nx.new hm0.size
          have nx170 : Nx 0 H36.size (H36.size + 1) := Nx.new hq11.size
          replace hb := hb.nw hs63
          replace ht := ht.nw hs63
          replace va2 := va2.nw hs63
          replace ow8 := ow8.nw hs63
          replace hm0 := hm0.tr hs63
          replace hq11 := hq11.trN hs63
          have hz27 := hs63.size
          refine ⟨.inr hq11, LH.narrow (SH2 := fun Hq => Mo (Ms [k9]) H63 Hq) (fun Hq hq => hq11.trL hq (MIL.cons (MI.app (MI.root (by simp)) (nx164) (Nat.le_refl _)) MIL.nil)) ?_⟩
          have hq11 : Mo (Ms [k9]) H63 H63 := Mo.refl _ _
          have nx171 := Nx.refl k9 H63.size
          refine LH.two (i := 2) (j := 8) (by kernel_rfl) ?_ ?_
          ·
            refine LO.z rfl (Z.apnd ow8 ow63.rd rfl inf22 rfl rfl (by first | (simp [be32_len, cp]; done) | (simp [be32_len, cp]; omega)) (by first | (simp [be32_len, cp]; done) | (simp [be32_len, cp]; omega))) (Wd.u rfl) rfl rfl (fun v64 H64 r64 => ?_)
            obtain ⟨k64, ow64, hk64, hs64⟩ := r64
            replace hk64 : Nx k9 H63.size k64 := hk64
            replace hs64 := hs64.md
            have df172 := DF.app (df38) (bf_hb.mono hm0.size) hk64
            have df173 := DF.app (df39) (bf_ht.mono hm0.size) hk64
            have dj174 : Dj (H0.size + 1) k64 := Dj.app (dj40) va2.lt hk64
            have dj175 : Dj (H36.size + 1) k64 := Dj.app (dj168.symm) ow63.le hk64
            have nx176 : Nx 0 H0.size k64 := Nx.tr (nx44) hk64 hm0.size
            have nx177 : Nx k9 H63.size k64 := Nx.tr (nx171) hk64 hq11.size
            replace hb := hb.upL hs64 (DFL.cons df38 DFL.nil)
            replace ht := ht.upL hs64 (DFL.cons df39 DFL.nil)
            replace va2 := va2.upL hs64 (DL.cons dj40 DL.nil)
            replace ow63 := ow63.upL hs64 (DL.cons dj168.symm DL.nil)
            replace hm0 := (Mo.trL (ks := []) (hm0.mdn []) hs64 (MIL.cons (MI.app MI.z (nx44) (Nat.le_refl _)) MIL.nil)).nil
            replace hq11 := hq11.trL hs64 (MIL.cons (MI.app (MI.root (by simp)) (nx171) (Nat.le_refl _)) MIL.nil)
            have hz28 := hs64.size
            have hle_ow64 := ow64.le
            refine ⟨.inr hq11, LH.narrow (SH2 := fun Hq => Mo (Ms [k64]) H64 Hq) (fun Hq hq => hq11.trL hq (MIL.cons (MI.app (MI.root (by simp)) (nx177) (Nat.le_refl _)) MIL.nil)) ?_⟩
            have hq11 : Mo (Ms [k64]) H64 H64 := Mo.refl _ _
            have nx178 := Nx.refl k64 H64.size
            refine LH.one (i := 8) (by kernel_rfl) ?_
            refine LO.z rfl (Z.litw _ (([bs.length - s, s].map (fun n : Nat => (n : Int)))) rfl inf31 rfl rfl rfl (by decide) (by decide) fI_len fI_one (rfl)) (Wd.u rfl) rfl rfl (fun v70 H70 r70 => ?_)
            obtain ⟨ow70, hs70, ob70, hH70⟩ := r70
            have hzs70 : H70.size = H64.size + 1 := by rw [hH70]; simp
            have df179 := (DF.new (bf_hb.mono hm0.size) : DF _ (H64.size + 1))
            have df180 := (DF.new (bf_ht.mono hm0.size) : DF _ (H64.size + 1))
            have dj181 : Dj (H0.size + 1) (H64.size + 1) := Dj.new va2.lt
            have dj182 : Dj (H36.size + 1) (H64.size + 1) := Dj.new ow63.le
            have dj183 : Dj k64 (H64.size + 1) := Dj.new ow64.le
            have nx184 : Nx 0 H0.size (H64.size + 1) := Nx.new hm0.size
            have nx185 : Nx 0 H64.size (H64.size + 1) := Nx.new hq11.size
            replace hb := hb.nw hs70
            replace ht := ht.nw hs70
            replace va2 := va2.nw hs70
            replace ow63 := ow63.nw hs70
            replace ow64 := ow64.nw hs70
            replace hm0 := hm0.tr hs70
            replace hq11 := hq11.trN hs70
            have hz29 := hs70.size
            refine ⟨.inr hq11, LH.narrow (SH2 := fun Hq => Mo (Ms [k64]) H70 Hq) (fun Hq hq => hq11.trL hq (MIL.cons (MI.app (MI.root (by simp)) (nx178) (Nat.le_refl _)) MIL.nil)) ?_⟩
            have hq11 : Mo (Ms [k64]) H70 H70 := Mo.refl _ _
            have nx186 := Nx.refl k64 H70.size
            refine LH.one (i := 9) (by kernel_rfl) ?_
            -- call selvage/delta.number
            refine LO.call rfl rfl Try.call20 rfl (Wd.u rfl) rfl rfl (number_ct k64 _ _ _ [bs.length - s, s] w0 _ ow64 (ow70.rd.imp (fun b _ h => (dj183.symm) b h)) (by simp) (by first | (simp [be32_len, cp]; done) | (simp [be32_len, cp]; omega))) (fun v71 H71 r71 => ?_)
            obtain ⟨v271, k71, rfl, ow8, hk71, hs71⟩ := r71
            have df187 := DF.app (df172) (bf_hb.mono hm0.size) hk71
            have df188 := DF.app (df173) (bf_ht.mono hm0.size) hk71
            have dj189 : Dj (H0.size + 1) k71 := Dj.app (dj174) va2.lt hk71
            have dj190 : Dj (H36.size + 1) k71 := Dj.app (dj175) ow63.le hk71
            have dj191 : Dj (H64.size + 1) k71 := Dj.app (dj183.symm) ow70.le hk71
            have nx192 : Nx 0 H0.size k71 := Nx.tr (nx176) hk71 hm0.size
            have nx193 : Nx k64 H70.size k71 := Nx.tr (nx186) hk71 hq11.size
            replace hb := hb.upL hs71 (DFL.cons df172 DFL.nil)
            replace ht := ht.upL hs71 (DFL.cons df173 DFL.nil)
            replace va2 := va2.upL hs71 (DL.cons dj174 DL.nil)
            replace ow63 := ow63.upL hs71 (DL.cons dj175 DL.nil)
            replace ow70 := ow70.upL hs71 (DL.cons dj183.symm DL.nil)
            replace hm0 := (Mo.trL (ks := []) (hm0.mdn []) hs71 (MIL.cons (MI.app MI.z (nx176) (Nat.le_refl _)) MIL.nil)).nil
            replace hq11 := hq11.trL hs71 (MIL.cons (MI.app (MI.root (by simp)) (nx186) (Nat.le_refl _)) MIL.nil)
            have hz30 := hs71.size
            have hle_ow8 := ow8.le
            refine ⟨.inr hq11, LH.narrow (SH2 := fun Hq => Mo (Ms [k71]) H71 Hq) (fun Hq hq => hq11.trL hq (MIL.cons (MI.app (MI.root (by simp)) (nx193) (Nat.le_refl _)) MIL.nil)) ?_⟩
            have hq11 : Mo (Ms [k71]) H71 H71 := Mo.refl _ _
            have nx194 := Nx.refl k71 H71.size
            refine LH.take 10 (by kernel_rfl) rfl (by kernel_rfl) (by kernel_rfl) (by kernel_rfl) (fun Hq hq => Y.assign rfl rfl) (Wd.u rfl) rfl rfl hq11 ?_
            refine LH.done (by kernel_rfl) ?_
            refine hK17 _ _ ?_
            refine CW.seq (fun K19 hK19 hE19 => ?_)
            refine CW.region ?_
            refine LR.v (Y.move rfl rfl) (Wd.u rfl) rfl rfl ?_
            refine LR.v (Y.assign rfl rfl) (Wd.u rfl) rfl rfl ?_
            refine LR.nil ?_
            refine hK19 _ _ ?_
            refine CW.ret (hret .ret (.inr rfl) _ _ _ (res1 rfl rfl) ?_)
            exact ⟨_, k71, p, s, rfl, hE, by
                unfold mkL
                first | rw [if_pos (show 0 < p by omega)] | rw [if_neg (show ¬ 0 < p by omega)]
                first | rw [if_pos (show 0 < (mid tg p s).length by omega)] | rw [if_neg (show ¬ 0 < (mid tg p s).length by omega)]
                first | rw [if_pos (show 0 < s by omega)] | rw [if_neg (show ¬ 0 < s by omega)]
                simpa [cp] using ow8, nx192, hm0⟩
          ·
            refine LO.z rfl (Z.litw _ (([bs.length - s, s].map (fun n : Nat => (n : Int)))) rfl inf31 rfl rfl rfl (by decide) (by decide) fI_len fI_one (rfl)) (Wd.u rfl) rfl rfl (fun v70 H70 r70 => ?_)
            obtain ⟨ow70, hs70, ob70, hH70⟩ := r70
            have hzs70 : H70.size = H63.size + 1 := by rw [hH70]; simp
            have df195 := (DF.new (bf_hb.mono hm0.size) : DF _ (H63.size + 1))
            have df196 := (DF.new (bf_ht.mono hm0.size) : DF _ (H63.size + 1))
            have dj197 : Dj (H0.size + 1) (H63.size + 1) := Dj.new va2.lt
            have dj198 : Dj k9 (H63.size + 1) := Dj.new ow8.le
            have dj199 : Dj (H36.size + 1) (H63.size + 1) := Dj.new ow63.le
            have nx200 : Nx 0 H0.size (H63.size + 1) := Nx.new hm0.size
            have nx201 : Nx 0 H63.size (H63.size + 1) := Nx.new hq11.size
            replace hb := hb.nw hs70
            replace ht := ht.nw hs70
            replace va2 := va2.nw hs70
            replace ow8 := ow8.nw hs70
            replace ow63 := ow63.nw hs70
            replace hm0 := hm0.tr hs70
            replace hq11 := hq11.trN hs70
            have hz31 := hs70.size
            refine ⟨.inr hq11, LH.narrow (SH2 := fun Hq => Mo (Ms [k9]) H70 Hq) (fun Hq hq => hq11.trL hq (MIL.cons (MI.app (MI.root (by simp)) (nx171) (Nat.le_refl _)) MIL.nil)) ?_⟩
            have hq11 : Mo (Ms [k9]) H70 H70 := Mo.refl _ _
            have nx202 := Nx.refl k9 H70.size
            refine LH.one (i := 2) (by kernel_rfl) ?_
            refine LO.z rfl (Z.apnd ow8 ow63.rd rfl inf22 rfl rfl (by first | (simp [be32_len, cp]; done) | (simp [be32_len, cp]; omega)) (by first | (simp [be32_len, cp]; done) | (simp [be32_len, cp]; omega))) (Wd.u rfl) rfl rfl (fun v64 H64 r64 => ?_)
            obtain ⟨k64, ow64, hk64, hs64⟩ := r64
            replace hk64 : Nx k9 H70.size k64 := hk64
            replace hs64 := hs64.md
            have df203 := DF.app (df38) (bf_hb.mono hm0.size) hk64
            have df204 := DF.app (df39) (bf_ht.mono hm0.size) hk64
            have dj205 : Dj (H0.size + 1) k64 := Dj.app (dj40) va2.lt hk64
            have dj206 : Dj (H36.size + 1) k64 := Dj.app (dj168.symm) ow63.le hk64
            have dj207 : Dj (H63.size + 1) k64 := Dj.app (dj198.symm) ow70.le hk64
            have nx208 : Nx 0 H0.size k64 := Nx.tr (nx44) hk64 hm0.size
            have nx209 : Nx k9 H70.size k64 := Nx.tr (nx202) hk64 hq11.size
            replace hb := hb.upL hs64 (DFL.cons df38 DFL.nil)
            replace ht := ht.upL hs64 (DFL.cons df39 DFL.nil)
            replace va2 := va2.upL hs64 (DL.cons dj40 DL.nil)
            replace ow63 := ow63.upL hs64 (DL.cons dj168.symm DL.nil)
            replace ow70 := ow70.upL hs64 (DL.cons dj198.symm DL.nil)
            replace hm0 := (Mo.trL (ks := []) (hm0.mdn []) hs64 (MIL.cons (MI.app MI.z (nx44) (Nat.le_refl _)) MIL.nil)).nil
            replace hq11 := hq11.trL hs64 (MIL.cons (MI.app (MI.root (by simp)) (nx202) (Nat.le_refl _)) MIL.nil)
            have hz32 := hs64.size
            have hle_ow64 := ow64.le
            refine ⟨.inr hq11, LH.narrow (SH2 := fun Hq => Mo (Ms [k64]) H64 Hq) (fun Hq hq => hq11.trL hq (MIL.cons (MI.app (MI.root (by simp)) (nx209) (Nat.le_refl _)) MIL.nil)) ?_⟩
            have hq11 : Mo (Ms [k64]) H64 H64 := Mo.refl _ _
            have nx210 := Nx.refl k64 H64.size
            refine LH.one (i := 9) (by kernel_rfl) ?_
            -- call selvage/delta.number
            refine LO.call rfl rfl Try.call20 rfl (Wd.u rfl) rfl rfl (number_ct k64 _ _ _ [bs.length - s, s] w0 _ ow64 (ow70.rd.imp (fun b _ h => (dj207) b h)) (by simp) (by first | (simp [be32_len, cp]; done) | (simp [be32_len, cp]; omega))) (fun v71 H71 r71 => ?_)
            obtain ⟨v271, k71, rfl, ow8, hk71, hs71⟩ := r71
            have df211 := DF.app (df203) (bf_hb.mono hm0.size) hk71
            have df212 := DF.app (df204) (bf_ht.mono hm0.size) hk71
            have dj213 : Dj (H0.size + 1) k71 := Dj.app (dj205) va2.lt hk71
            have dj214 : Dj (H36.size + 1) k71 := Dj.app (dj206) ow63.le hk71
            have dj215 : Dj (H63.size + 1) k71 := Dj.app (dj207) ow70.le hk71
            have nx216 : Nx 0 H0.size k71 := Nx.tr (nx208) hk71 hm0.size
            have nx217 : Nx k64 H64.size k71 := Nx.tr (nx210) hk71 hq11.size
            replace hb := hb.upL hs71 (DFL.cons df203 DFL.nil)
            replace ht := ht.upL hs71 (DFL.cons df204 DFL.nil)
            replace va2 := va2.upL hs71 (DL.cons dj205 DL.nil)
            replace ow63 := ow63.upL hs71 (DL.cons dj206 DL.nil)
            replace ow70 := ow70.upL hs71 (DL.cons dj207 DL.nil)
            replace hm0 := (Mo.trL (ks := []) (hm0.mdn []) hs71 (MIL.cons (MI.app MI.z (nx208) (Nat.le_refl _)) MIL.nil)).nil
            replace hq11 := hq11.trL hs71 (MIL.cons (MI.app (MI.root (by simp)) (nx210) (Nat.le_refl _)) MIL.nil)
            have hz33 := hs71.size
            have hle_ow8 := ow8.le
            refine ⟨.inr hq11, LH.narrow (SH2 := fun Hq => Mo (Ms [k71]) H71 Hq) (fun Hq hq => hq11.trL hq (MIL.cons (MI.app (MI.root (by simp)) (nx217) (Nat.le_refl _)) MIL.nil)) ?_⟩
            have hq11 : Mo (Ms [k71]) H71 H71 := Mo.refl _ _
            have nx218 := Nx.refl k71 H71.size
            refine LH.take 10 (by kernel_rfl) rfl (by kernel_rfl) (by kernel_rfl) (by kernel_rfl) (fun Hq hq => Y.assign rfl rfl) (Wd.u rfl) rfl rfl hq11 ?_
            refine LH.done (by kernel_rfl) ?_
            refine hK17 _ _ ?_
            refine CW.seq (fun K20 hK20 hE20 => ?_)
            refine CW.region ?_
            refine LR.v (Y.move rfl rfl) (Wd.u rfl) rfl rfl ?_
            refine LR.v (Y.assign rfl rfl) (Wd.u rfl) rfl rfl ?_
            refine LR.nil ?_
            refine hK20 _ _ ?_
            refine CW.ret (hret .ret (.inr rfl) _ _ _ (res1 rfl rfl) ?_)
            exact ⟨_, k71, p, s, rfl, hE, by
                unfold mkL
                first | rw [if_pos (show 0 < p by omega)] | rw [if_neg (show ¬ 0 < p by omega)]
                first | rw [if_pos (show 0 < (mid tg p s).length by omega)] | rw [if_neg (show ¬ 0 < (mid tg p s).length by omega)]
                first | rw [if_pos (show 0 < s by omega)] | rw [if_neg (show ¬ 0 < s by omega)]
                simpa [cp] using ow8, nx216, hm0⟩
        ·
          refine LO.z rfl (Z.litw _ (([bs.length - s, s].map (fun n : Nat => (n : Int)))) rfl inf31 rfl rfl rfl (by decide) (by decide) fI_len fI_one (rfl)) (Wd.u rfl) rfl rfl (fun v70 H70 r70 => ?_)
          obtain ⟨ow70, hs70, ob70, hH70⟩ := r70
          have hzs70 : H70.size = H36.size + 1 := by rw [hH70]; simp
          have df219 := (DF.new (bf_hb.mono hm0.size) : DF _ (H36.size + 1))
          have df220 := (DF.new (bf_ht.mono hm0.size) : DF _ (H36.size + 1))
          have dj221 : Dj (H0.size + 1) (H36.size + 1) := Dj.new va2.lt
          have dj222 : Dj k9 (H36.size + 1) := Dj.new ow8.le
          have nx223 : Nx 0 H0.size (H36.size + 1) := Nx.new hm0.size
          have nx224 : Nx 0 H36.size (H36.size + 1) := Nx.new hq11.size
          replace hb := hb.nw hs70
          replace ht := ht.nw hs70
          replace va2 := va2.nw hs70
          replace ow8 := ow8.nw hs70
          replace hm0 := hm0.tr hs70
          replace hq11 := hq11.trN hs70
          have hz34 := hs70.size
          refine ⟨.inr hq11, LH.narrow (SH2 := fun Hq => Mo (Ms [k9]) H70 Hq) (fun Hq hq => hq11.trL hq (MIL.cons (MI.app (MI.root (by simp)) (nx164) (Nat.le_refl _)) MIL.nil)) ?_⟩
          have hq11 : Mo (Ms [k9]) H70 H70 := Mo.refl _ _
          have nx225 := Nx.refl k9 H70.size
          refine LH.one (i := 1) (by kernel_rfl) ?_
          refine LO.z rfl (Z.litw _ ([(1 : UInt8)]) rfl inf22 rfl rfl rfl (by decide) (by decide) fB_len fB_one (rfl)) (Wd.u rfl) rfl rfl (fun v63 H63 r63 => ?_)
          obtain ⟨ow63, hs63, ob63, hH63⟩ := r63
          have hzs63 : H63.size = H70.size + 1 := by rw [hH63]; simp
          have df226 := (DF.new (bf_hb.mono hm0.size) : DF _ (H70.size + 1))
          have df227 := (DF.new (bf_ht.mono hm0.size) : DF _ (H70.size + 1))
          have dj228 : Dj (H0.size + 1) (H70.size + 1) := Dj.new va2.lt
          have dj229 : Dj k9 (H70.size + 1) := Dj.new ow8.le
          have dj230 : Dj (H36.size + 1) (H70.size + 1) := Dj.new ow70.le
          have nx231 : Nx 0 H0.size (H70.size + 1) := Nx.new hm0.size
          have nx232 : Nx 0 H70.size (H70.size + 1) := Nx.new hq11.size
          replace hb := hb.nw hs63
          replace ht := ht.nw hs63
          replace va2 := va2.nw hs63
          replace ow8 := ow8.nw hs63
          replace ow70 := ow70.nw hs63
          replace hm0 := hm0.tr hs63
          replace hq11 := hq11.trN hs63
          have hz35 := hs63.size
          refine ⟨.inr hq11, LH.narrow (SH2 := fun Hq => Mo (Ms [k9]) H63 Hq) (fun Hq hq => hq11.trL hq (MIL.cons (MI.app (MI.root (by simp)) (nx225) (Nat.le_refl _)) MIL.nil)) ?_⟩
          have hq11 : Mo (Ms [k9]) H63 H63 := Mo.refl _ _
          have nx233 := Nx.refl k9 H63.size
          refine LH.one (i := 2) (by kernel_rfl) ?_
          refine LO.z rfl (Z.apnd ow8 ow63.rd rfl inf22 rfl rfl (by first | (simp [be32_len, cp]; done) | (simp [be32_len, cp]; omega)) (by first | (simp [be32_len, cp]; done) | (simp [be32_len, cp]; omega))) (Wd.u rfl) rfl rfl (fun v64 H64 r64 => ?_)
          obtain ⟨k64, ow64, hk64, hs64⟩ := r64
          replace hk64 : Nx k9 H63.size k64 := hk64
          replace hs64 := hs64.md
          have df234 := DF.app (df38) (bf_hb.mono hm0.size) hk64
          have df235 := DF.app (df39) (bf_ht.mono hm0.size) hk64
          have dj236 : Dj (H0.size + 1) k64 := Dj.app (dj40) va2.lt hk64
          have dj237 : Dj (H36.size + 1) k64 := Dj.app (dj222.symm) ow70.le hk64
          have dj238 : Dj (H70.size + 1) k64 := Dj.app (dj229.symm) ow63.le hk64
          have nx239 : Nx 0 H0.size k64 := Nx.tr (nx44) hk64 hm0.size
          have nx240 : Nx k9 H63.size k64 := Nx.tr (nx233) hk64 hq11.size
          replace hb := hb.upL hs64 (DFL.cons df38 DFL.nil)
          replace ht := ht.upL hs64 (DFL.cons df39 DFL.nil)
          replace va2 := va2.upL hs64 (DL.cons dj40 DL.nil)
          replace ow70 := ow70.upL hs64 (DL.cons dj222.symm DL.nil)
          replace ow63 := ow63.upL hs64 (DL.cons dj229.symm DL.nil)
          replace hm0 := (Mo.trL (ks := []) (hm0.mdn []) hs64 (MIL.cons (MI.app MI.z (nx44) (Nat.le_refl _)) MIL.nil)).nil
          replace hq11 := hq11.trL hs64 (MIL.cons (MI.app (MI.root (by simp)) (nx233) (Nat.le_refl _)) MIL.nil)
          have hz36 := hs64.size
          have hle_ow64 := ow64.le
          refine ⟨.inr hq11, LH.narrow (SH2 := fun Hq => Mo (Ms [k64]) H64 Hq) (fun Hq hq => hq11.trL hq (MIL.cons (MI.app (MI.root (by simp)) (nx240) (Nat.le_refl _)) MIL.nil)) ?_⟩
          have hq11 : Mo (Ms [k64]) H64 H64 := Mo.refl _ _
          have nx241 := Nx.refl k64 H64.size
          refine LH.one (i := 9) (by kernel_rfl) ?_
          -- call selvage/delta.number
          refine LO.call rfl rfl Try.call20 rfl (Wd.u rfl) rfl rfl (number_ct k64 _ _ _ [bs.length - s, s] w0 _ ow64 (ow70.rd.imp (fun b _ h => (dj237) b h)) (by simp) (by first | (simp [be32_len, cp]; done) | (simp [be32_len, cp]; omega))) (fun v71 H71 r71 => ?_)
          obtain ⟨v271, k71, rfl, ow8, hk71, hs71⟩ := r71
          have df242 := DF.app (df234) (bf_hb.mono hm0.size) hk71
          have df243 := DF.app (df235) (bf_ht.mono hm0.size) hk71
          have dj244 : Dj (H0.size + 1) k71 := Dj.app (dj236) va2.lt hk71
          have dj245 : Dj (H36.size + 1) k71 := Dj.app (dj237) ow70.le hk71
          have dj246 : Dj (H70.size + 1) k71 := Dj.app (dj238) ow63.le hk71
          have nx247 : Nx 0 H0.size k71 := Nx.tr (nx239) hk71 hm0.size
          have nx248 : Nx k64 H64.size k71 := Nx.tr (nx241) hk71 hq11.size
          replace hb := hb.upL hs71 (DFL.cons df234 DFL.nil)
          replace ht := ht.upL hs71 (DFL.cons df235 DFL.nil)
          replace va2 := va2.upL hs71 (DL.cons dj236 DL.nil)
          replace ow70 := ow70.upL hs71 (DL.cons dj237 DL.nil)
          replace ow63 := ow63.upL hs71 (DL.cons dj238 DL.nil)
          replace hm0 := (Mo.trL (ks := []) (hm0.mdn []) hs71 (MIL.cons (MI.app MI.z (nx239) (Nat.le_refl _)) MIL.nil)).nil
          replace hq11 := hq11.trL hs71 (MIL.cons (MI.app (MI.root (by simp)) (nx241) (Nat.le_refl _)) MIL.nil)
          have hz37 := hs71.size
          have hle_ow8 := ow8.le
          refine ⟨.inr hq11, LH.narrow (SH2 := fun Hq => Mo (Ms [k71]) H71 Hq) (fun Hq hq => hq11.trL hq (MIL.cons (MI.app (MI.root (by simp)) (nx248) (Nat.le_refl _)) MIL.nil)) ?_⟩
          have hq11 : Mo (Ms [k71]) H71 H71 := Mo.refl _ _
          have nx249 := Nx.refl k71 H71.size
          refine LH.take 10 (by kernel_rfl) rfl (by kernel_rfl) (by kernel_rfl) (by kernel_rfl) (fun Hq hq => Y.assign rfl rfl) (Wd.u rfl) rfl rfl hq11 ?_
          refine LH.done (by kernel_rfl) ?_
          refine hK17 _ _ ?_
          refine CW.seq (fun K21 hK21 hE21 => ?_)
          refine CW.region ?_
          refine LR.v (Y.move rfl rfl) (Wd.u rfl) rfl rfl ?_
          refine LR.v (Y.assign rfl rfl) (Wd.u rfl) rfl rfl ?_
          refine LR.nil ?_
          refine hK21 _ _ ?_
          refine CW.ret (hret .ret (.inr rfl) _ _ _ (res1 rfl rfl) ?_)
          exact ⟨_, k71, p, s, rfl, hE, by
              unfold mkL
              first | rw [if_pos (show 0 < p by omega)] | rw [if_neg (show ¬ 0 < p by omega)]
              first | rw [if_pos (show 0 < (mid tg p s).length by omega)] | rw [if_neg (show ¬ 0 < (mid tg p s).length by omega)]
              first | rw [if_pos (show 0 < s by omega)] | rw [if_neg (show ¬ 0 < s by omega)]
              simpa [cp] using ow8, nx247, hm0⟩
      ·
        refine CW.skip ?_
        refine hK17 _ _ ?_
        refine CW.seq (fun K22 hK22 hE22 => ?_)
        refine CW.region ?_
        refine LR.v (Y.move rfl rfl) (Wd.u rfl) rfl rfl ?_
        refine LR.v (Y.assign rfl rfl) (Wd.u rfl) rfl rfl ?_
        refine LR.nil ?_
        refine hK22 _ _ ?_
        refine CW.ret (hret .ret (.inr rfl) _ _ _ (res1 rfl rfl) ?_)
        exact ⟨_, k9, p, s, rfl, hE, by
            unfold mkL
            first | rw [if_pos (show 0 < p by omega)] | rw [if_neg (show ¬ 0 < p by omega)]
            first | rw [if_pos (show 0 < (mid tg p s).length by omega)] | rw [if_neg (show ¬ 0 < (mid tg p s).length by omega)]
            first | rw [if_pos (show 0 < s by omega)] | rw [if_neg (show ¬ 0 < s by omega)]
            simpa [cp] using ow8, nx44, hm0⟩
  ·
    refine CW.skip ?_
    refine hK6 _ _ ?_
    refine CW.seq (fun K23 hK23 hE23 => ?_)
    refine CW.seq (fun K24 hK24 hE24 => ?_)
    refine CW.region ?_
    refine LR.v (Y.load1 va3.pt rfl Try.isAgg22 rfl) (Wd.u rfl) rfl rfl ?_
    refine LR.v (Y.move rfl rfl) (Wd.u rfl) rfl rfl ?_
    refine LR.v (Y.load1 va3.pt rfl Try.isAgg22 rfl) (Wd.u rfl) rfl rfl ?_
    refine LR.v (Y.len ht rfl Try.runUnderlying22 rfl) (Wd.u rfl) rfl rfl ?_
    refine LR.v (Y.move rfl rfl) (Wd.u rfl) rfl rfl ?_
    refine LR.v (Y.subi rfl rfl rfl (by omega)) (Wd.u rfl) rfl rfl ?_
    refine LR.v (Y.load1 va3.pt rfl Try.isAgg22 rfl) (Wd.u rfl) rfl rfl ?_
    refine LR.v (Y.len ht rfl Try.runUnderlying22 rfl) (Wd.u rfl) rfl rfl ?_
    refine LR.v (Y.move rfl rfl) (Wd.u rfl) rfl rfl ?_
    refine LR.v (Y.subi rfl rfl rfl (by omega)) (Wd.u rfl) rfl rfl ?_
    refine LR.e (g := fun v => v) (Y.slice3 ht (p) (tg.length - s) (tg.length - s) rfl Try.runUnderlying22 Try.sizeOf5 rfl (.inr ⟨_, _, _, rfl, rfl, by first | rfl | omega⟩) ⟨_, _, _, rfl, rfl, by omega⟩ ⟨_, _, _, rfl, rfl, by omega⟩ (by omega) (by omega) (by omega)) (Wd.u rfl) rfl rfl (fun v47 rd47 => ?_)
    have bf_rd47 := bf_ht
    replace rd47 : Rd _ _ fB 1 v47 (mid tg p s) := rd47
    refine LR.v (Y.assign rfl rfl) (Wd.u rfl) rfl rfl ?_
    refine LR.nil ?_
    refine hK24 _ _ ?_
    refine CW.seq (fun K25 hK25 hE25 => ?_)
    refine CW.region ?_
    refine LR.v (Y.move rfl rfl) (Wd.u rfl) rfl rfl ?_
    refine LR.v (Y.len rd47 rfl Try.runUnderlying22 rfl) (Wd.u rfl) rfl rfl ?_
    refine LR.v (Y.gtr rfl rfl rfl) (Wd.u rfl) rfl rfl ?_
    refine LR.nil ?_
    refine hK25 _ _ ?_
    refine CW.condp rfl (fun c50 => ?_) (fun c50 => ?_)
    ·
      refine CW.region ?_
      refine LR.v (Y.move rfl rfl) (Wd.u rfl) rfl rfl ?_
      refine LR.z (Z.litw _ ([(2 : UInt8)]) rfl inf22 rfl rfl rfl (by decide) (by decide) fB_len fB_one (rfl)) (Wd.u rfl) rfl rfl (fun v52 H52 r52 => ?_)
      obtain ⟨ow52, hs52, ob52, hH52⟩ := r52
      have hzs52 : H52.size = H28.size + 1 := by rw [hH52]; simp
      have df250 := (DF.new (bf_hb.mono hm0.size) : DF _ (H28.size + 1))
      have df251 := (DF.new (bf_ht.mono hm0.size) : DF _ (H28.size + 1))
      have dj252 : Dj (H0.size + 1) (H28.size + 1) := Dj.new va2.lt
      have dj253 : Dj k8 (H28.size + 1) := Dj.new ow8.le
      have df254 := (DF.new (bf_rd47.mono hm0.size) : DF _ (H28.size + 1))
      have nx255 : Nx 0 H0.size (H28.size + 1) := Nx.new hm0.size
      replace hb := hb.nw hs52
      replace ht := ht.nw hs52
      replace va2 := va2.nw hs52
      replace ow8 := ow8.nw hs52
      replace rd47 := rd47.nw hs52
      replace hm0 := hm0.tr hs52
      have hz38 := hs52.size
      refine LR.z (Z.apnd ow8 ow52.rd rfl inf22 rfl rfl (by first | (simp [be32_len, cp]; done) | (simp [be32_len, cp]; omega)) (by first | (simp [be32_len, cp]; done) | (simp [be32_len, cp]; omega))) (Wd.u rfl) rfl rfl (fun v53 H53 r53 => ?_)
      obtain ⟨k53, ow53, hk53, hs53⟩ := r53
      replace hk53 : Nx k8 H52.size k53 := hk53
      replace hs53 := hs53.md
      have df256 := DF.app (df13) (bf_hb.mono hm0.size) hk53
      have df257 := DF.app (df14) (bf_ht.mono hm0.size) hk53
      have dj258 : Dj (H0.size + 1) k53 := Dj.app (dj15) va2.lt hk53
      have df259 := DF.app (df14) (bf_rd47.mono hm0.size) hk53
      have dj260 : Dj (H28.size + 1) k53 := Dj.app (dj253.symm) ow52.le hk53
      have nx261 : Nx 0 H0.size k53 := Nx.tr (nx18) hk53 hm0.size
      replace hb := hb.upL hs53 (DFL.cons df13 DFL.nil)
      replace ht := ht.upL hs53 (DFL.cons df14 DFL.nil)
      replace va2 := va2.upL hs53 (DL.cons dj15 DL.nil)
      replace rd47 := rd47.upL hs53 (DFL.cons df14 DFL.nil)
      replace ow52 := ow52.upL hs53 (DL.cons dj253.symm DL.nil)
      replace hm0 := (Mo.trL (ks := []) (hm0.mdn []) hs53 (MIL.cons (MI.app MI.z (nx18) (Nat.le_refl _)) MIL.nil)).nil
      have hz39 := hs53.size
      have hle_ow53 := ow53.le
      refine LR.v (Y.move rfl rfl) (Wd.u rfl) rfl rfl ?_
      refine LR.v (Y.len rd47 rfl Try.runUnderlying22 rfl) (Wd.u rfl) rfl rfl ?_
      refine LR.z (Z.litw _ (([(mid tg p s).length].map (fun n : Nat => (n : Int)))) rfl inf31 rfl rfl rfl (by decide) (by decide) fI_len fI_one (rfl)) (Wd.u rfl) rfl rfl (fun v56 H56 r56 => ?_)
      obtain ⟨ow56, hs56, ob56, hH56⟩ := r56
      have hzs56 : H56.size = H53.size + 1 := by rw [hH56]; simp
      have df262 := (DF.new (bf_hb.mono hm0.size) : DF _ (H53.size + 1))
      have df263 := (DF.new (bf_ht.mono hm0.size) : DF _ (H53.size + 1))
      have dj264 : Dj (H0.size + 1) (H53.size + 1) := Dj.new va2.lt
      have df265 := (DF.new (bf_rd47.mono hm0.size) : DF _ (H53.size + 1))
      have dj266 : Dj (H28.size + 1) (H53.size + 1) := Dj.new ow52.le
      have dj267 : Dj k53 (H53.size + 1) := Dj.new ow53.le
      have nx268 : Nx 0 H0.size (H53.size + 1) := Nx.new hm0.size
      replace hb := hb.nw hs56
      replace ht := ht.nw hs56
      replace va2 := va2.nw hs56
      replace rd47 := rd47.nw hs56
      replace ow52 := ow52.nw hs56
      replace ow53 := ow53.nw hs56
      replace hm0 := hm0.tr hs56
      have hz40 := hs56.size
      -- call selvage/delta.number
      refine LR.call rfl Try.call20 rfl (Wd.u rfl) rfl rfl (number_ct k53 _ _ _ [(mid tg p s).length] w0 _ ow53 (ow56.rd.imp (fun b _ h => (dj267.symm) b h)) (by simp) (by first | (simp [be32_len, cp]; done) | (simp [be32_len, cp]; omega))) (fun v57 H57 r57 => ?_)
      obtain ⟨v257, k57, rfl, ow57, hk57, hs57⟩ := r57
      have df269 := DF.app (df256) (bf_hb.mono hm0.size) hk57
      have df270 := DF.app (df257) (bf_ht.mono hm0.size) hk57
      have dj271 : Dj (H0.size + 1) k57 := Dj.app (dj258) va2.lt hk57
      have df272 := DF.app (df259) (bf_rd47.mono hm0.size) hk57
      have dj273 : Dj (H28.size + 1) k57 := Dj.app (dj260) ow52.le hk57
      have dj274 : Dj (H53.size + 1) k57 := Dj.app (dj267.symm) ow56.le hk57
      have nx275 : Nx 0 H0.size k57 := Nx.tr (nx261) hk57 hm0.size
      replace hb := hb.upL hs57 (DFL.cons df256 DFL.nil)
      replace ht := ht.upL hs57 (DFL.cons df257 DFL.nil)
      replace va2 := va2.upL hs57 (DL.cons dj258 DL.nil)
      replace rd47 := rd47.upL hs57 (DFL.cons df259 DFL.nil)
      replace ow52 := ow52.upL hs57 (DL.cons dj260 DL.nil)
      replace ow56 := ow56.upL hs57 (DL.cons dj267.symm DL.nil)
      replace hm0 := (Mo.trL (ks := []) (hm0.mdn []) hs57 (MIL.cons (MI.app MI.z (nx261) (Nat.le_refl _)) MIL.nil)).nil
      have hz41 := hs57.size
      have hle_ow57 := ow57.le
      refine LR.v (Y.move rfl rfl) (Wd.u rfl) rfl rfl ?_
      refine LR.z (Z.apnd ow57 rd47 rfl inf22 rfl rfl (by first | (simp [be32_len, cp]; done) | (simp [be32_len, cp]; omega)) (by first | (simp [be32_len, cp]; done) | (simp [be32_len, cp]; omega))) (Wd.u rfl) rfl rfl (fun v59 H59 r59 => ?_)
      obtain ⟨k59, ow8, hk59, hs59⟩ := r59
      replace hk59 : Nx k57 H57.size k59 := hk59
      replace hs59 := hs59.md
      have df276 := DF.app (df269) (bf_hb.mono hm0.size) hk59
      have df277 := DF.app (df270) (bf_ht.mono hm0.size) hk59
      have dj278 : Dj (H0.size + 1) k59 := Dj.app (dj271) va2.lt hk59
      have df279 := DF.app (df272) (bf_rd47.mono hm0.size) hk59
      have dj280 : Dj (H28.size + 1) k59 := Dj.app (dj273) ow52.le hk59
      have dj281 : Dj (H53.size + 1) k59 := Dj.app (dj274) ow56.le hk59
      have nx282 : Nx 0 H0.size k59 := Nx.tr (nx275) hk59 hm0.size
      replace hb := hb.upL hs59 (DFL.cons df269 DFL.nil)
      replace ht := ht.upL hs59 (DFL.cons df270 DFL.nil)
      replace va2 := va2.upL hs59 (DL.cons dj271 DL.nil)
      replace rd47 := rd47.upL hs59 (DFL.cons df272 DFL.nil)
      replace ow52 := ow52.upL hs59 (DL.cons dj273 DL.nil)
      replace ow56 := ow56.upL hs59 (DL.cons dj274 DL.nil)
      replace hm0 := (Mo.trL (ks := []) (hm0.mdn []) hs59 (MIL.cons (MI.app MI.z (nx275) (Nat.le_refl _)) MIL.nil)).nil
      have hz42 := hs59.size
      have hle_ow8 := ow8.le
      refine LR.v (Y.assign rfl rfl) (Wd.u rfl) rfl rfl ?_
      refine LR.nil ?_
      refine hK23 _ _ ?_
      refine CW.seq (fun K26 hK26 hE26 => ?_)
      refine CW.seq (fun K27 hK27 hE27 => ?_)
      refine CW.region ?_
      refine LR.v (Y.move rfl rfl) (Wd.u rfl) rfl rfl ?_
      refine LR.v (Y.gtr rfl rfl rfl) (Wd.u rfl) rfl rfl ?_
      refine LR.nil ?_
      refine hK27 _ _ ?_
      refine CW.condp rfl (fun c61 => ?_) (fun c61 => ?_)
      ·
        refine CW.region_any (fun Hq => Mo (Ms [k59]) H59 Hq) [] rfl ?_
        have hq11 : Mo (Ms [k59]) H59 H59 := Mo.refl _ _
        have nx283 := Nx.refl k59 H59.size
        refine LH.take 0 (by kernel_rfl) rfl (by kernel_rfl) (by kernel_rfl) (by kernel_rfl) (fun Hq hq => Y.move rfl rfl) (Wd.u rfl) rfl rfl hq11 ?_
        refine LH.take 3 (by kernel_rfl) rfl (by kernel_rfl) (by kernel_rfl) (by kernel_rfl) (fun Hq hq => Y.load1 (va2.upL hq (DL.cons dj278 DL.nil)).pt rfl Try.isAgg22 rfl) (Wd.u rfl) rfl rfl hq11 ?_
        refine LH.take 4 (by kernel_rfl) rfl (by kernel_rfl) (by kernel_rfl) (by kernel_rfl) (fun Hq hq => Y.len (hb.upL hq (DFL.cons df276 DFL.nil)) rfl Try.runUnderlying22 rfl) (Wd.u rfl) rfl rfl hq11 ?_
        refine LH.take 5 (by kernel_rfl) rfl (by kernel_rfl) (by kernel_rfl) (by kernel_rfl) (fun Hq hq => Y.move rfl rfl) (Wd.u rfl) rfl rfl hq11 ?_
        refine LH.take 6 (by kernel_rfl) rfl (by kernel_rfl) (by kernel_rfl) (by kernel_rfl) (fun Hq hq => Y.cast (v2 := .int .i64 ((bs.length - s : Nat) : Int)) (Y.subi rfl rfl rfl (by omega)) (ivv (by omega))) (Wd.u rfl) rfl rfl hq11 ?_
        refine LH.take 7 (by kernel_rfl) rfl (by kernel_rfl) (by kernel_rfl) (by kernel_rfl) (fun Hq hq => Y.move rfl rfl) (Wd.u rfl) rfl rfl hq11 ?_
        refine LH.two (i := 1) (j := 8) (by kernel_rfl) ?_ ?_
        ·
          refine LO.z rfl (Z.litw _ ([(1 : UInt8)]) rfl inf22 rfl rfl rfl (by decide) (by decide) fB_len fB_one (rfl)) (Wd.u rfl) rfl rfl (fun v63 H63 r63 => ?_)
          obtain ⟨ow63, hs63, ob63, hH63⟩ := r63
          have hzs63 : H63.size = H59.size + 1 := by rw [hH63]; simp
          have df284 := (DF.new (bf_hb.mono hm0.size) : DF _ (H59.size + 1))
          have df285 := (DF.new (bf_ht.mono hm0.size) : DF _ (H59.size + 1))
          have dj286 : Dj (H0.size + 1) (H59.size + 1) := Dj.new va2.lt
          have dj287 : Dj k59 (H59.size + 1) := Dj.new ow8.le
          have nx288 : Nx 0 H0.size (H59.size + 1) := Nx.new hm0.size
          have nx289 : Nx 0 H59.size (H59.size + 1) := Nx.new hq11.size
          replace hb := hb.nw hs63
          replace ht := ht.nw hs63
          replace va2 := va2.nw hs63
          replace ow8 := ow8.nw hs63
          replace hm0 := hm0.tr hs63
          replace hq11 := hq11.trN hs63
          have hz43 := hs63.size
          refine ⟨.inr hq11, LH.narrow (SH2 := fun Hq => Mo (Ms [k59]) H63 Hq) (fun Hq hq => hq11.trL hq (MIL.cons (MI.app (MI.root (by simp)) (nx283) (Nat.le_refl _)) MIL.nil)) ?_⟩
          have hq11 : Mo (Ms [k59]) H63 H63 := Mo.refl _ _
          have nx290 := Nx.refl k59 H63.size
          refine LH.two (i := 2) (j := 8) (by kernel_rfl) ?_ ?_
          ·
            refine LO.z rfl (Z.apnd ow8 ow63.rd rfl inf22 rfl rfl (by first | (simp [be32_len, cp]; done) | (simp [be32_len, cp]; omega)) (by first | (simp [be32_len, cp]; done) | (simp [be32_len, cp]; omega))) (Wd.u rfl) rfl rfl (fun v64 H64 r64 => ?_)
            obtain ⟨k64, ow64, hk64, hs64⟩ := r64
            replace hk64 : Nx k59 H63.size k64 := hk64
            replace hs64 := hs64.md
            have df291 := DF.app (df276) (bf_hb.mono hm0.size) hk64
            have df292 := DF.app (df277) (bf_ht.mono hm0.size) hk64
            have dj293 : Dj (H0.size + 1) k64 := Dj.app (dj278) va2.lt hk64
            have dj294 : Dj (H59.size + 1) k64 := Dj.app (dj287.symm) ow63.le hk64
            have nx295 : Nx 0 H0.size k64 := Nx.tr (nx282) hk64 hm0.size
            have nx296 : Nx k59 H63.size k64 := Nx.tr (nx290) hk64 hq11.size
            replace hb := hb.upL hs64 (DFL.cons df276 DFL.nil)
            replace ht := ht.upL hs64 (DFL.cons df277 DFL.nil)
            replace va2 := va2.upL hs64 (DL.cons dj278 DL.nil)
            replace ow63 := ow63.upL hs64 (DL.cons dj287.symm DL.nil)
            replace hm0 := (Mo.trL (ks := []) (hm0.mdn []) hs64 (MIL.cons (MI.app MI.z (nx282) (Nat.le_refl _)) MIL.nil)).nil
            replace hq11 := hq11.trL hs64 (MIL.cons (MI.app (MI.root (by simp)) (nx290) (Nat.le_refl _)) MIL.nil)
            have hz44 := hs64.size
            have hle_ow64 := ow64.le
            refine ⟨.inr hq11, LH.narrow (SH2 := fun Hq => Mo (Ms [k64]) H64 Hq) (fun Hq hq => hq11.trL hq (MIL.cons (MI.app (MI.root (by simp)) (nx296) (Nat.le_refl _)) MIL.nil)) ?_⟩
            have hq11 : Mo (Ms [k64]) H64 H64 := Mo.refl _ _
            have nx297 := Nx.refl k64 H64.size
            refine LH.one (i := 8) (by kernel_rfl) ?_
            refine LO.z rfl (Z.litw _ (([bs.length - s, s].map (fun n : Nat => (n : Int)))) rfl inf31 rfl rfl rfl (by decide) (by decide) fI_len fI_one (rfl)) (Wd.u rfl) rfl rfl (fun v70 H70 r70 => ?_)
            obtain ⟨ow70, hs70, ob70, hH70⟩ := r70
            have hzs70 : H70.size = H64.size + 1 := by rw [hH70]; simp
            have df298 := (DF.new (bf_hb.mono hm0.size) : DF _ (H64.size + 1))
            have df299 := (DF.new (bf_ht.mono hm0.size) : DF _ (H64.size + 1))
            have dj300 : Dj (H0.size + 1) (H64.size + 1) := Dj.new va2.lt
            have dj301 : Dj (H59.size + 1) (H64.size + 1) := Dj.new ow63.le
            have dj302 : Dj k64 (H64.size + 1) := Dj.new ow64.le
            have nx303 : Nx 0 H0.size (H64.size + 1) := Nx.new hm0.size
            have nx304 : Nx 0 H64.size (H64.size + 1) := Nx.new hq11.size
            replace hb := hb.nw hs70
            replace ht := ht.nw hs70
            replace va2 := va2.nw hs70
            replace ow63 := ow63.nw hs70
            replace ow64 := ow64.nw hs70
            replace hm0 := hm0.tr hs70
            replace hq11 := hq11.trN hs70
            have hz45 := hs70.size
            refine ⟨.inr hq11, LH.narrow (SH2 := fun Hq => Mo (Ms [k64]) H70 Hq) (fun Hq hq => hq11.trL hq (MIL.cons (MI.app (MI.root (by simp)) (nx297) (Nat.le_refl _)) MIL.nil)) ?_⟩
            have hq11 : Mo (Ms [k64]) H70 H70 := Mo.refl _ _
            have nx305 := Nx.refl k64 H70.size
            refine LH.one (i := 9) (by kernel_rfl) ?_
            -- call selvage/delta.number
            refine LO.call rfl rfl Try.call20 rfl (Wd.u rfl) rfl rfl (number_ct k64 _ _ _ [bs.length - s, s] w0 _ ow64 (ow70.rd.imp (fun b _ h => (dj302.symm) b h)) (by simp) (by first | (simp [be32_len, cp]; done) | (simp [be32_len, cp]; omega))) (fun v71 H71 r71 => ?_)
            obtain ⟨v271, k71, rfl, ow8, hk71, hs71⟩ := r71
            have df306 := DF.app (df291) (bf_hb.mono hm0.size) hk71
            have df307 := DF.app (df292) (bf_ht.mono hm0.size) hk71
            have dj308 : Dj (H0.size + 1) k71 := Dj.app (dj293) va2.lt hk71
            have dj309 : Dj (H59.size + 1) k71 := Dj.app (dj294) ow63.le hk71
            have dj310 : Dj (H64.size + 1) k71 := Dj.app (dj302.symm) ow70.le hk71
            have nx311 : Nx 0 H0.size k71 := Nx.tr (nx295) hk71 hm0.size
            have nx312 : Nx k64 H70.size k71 := Nx.tr (nx305) hk71 hq11.size
            replace hb := hb.upL hs71 (DFL.cons df291 DFL.nil)
            replace ht := ht.upL hs71 (DFL.cons df292 DFL.nil)
            replace va2 := va2.upL hs71 (DL.cons dj293 DL.nil)
            replace ow63 := ow63.upL hs71 (DL.cons dj294 DL.nil)
            replace ow70 := ow70.upL hs71 (DL.cons dj302.symm DL.nil)
            replace hm0 := (Mo.trL (ks := []) (hm0.mdn []) hs71 (MIL.cons (MI.app MI.z (nx295) (Nat.le_refl _)) MIL.nil)).nil
            replace hq11 := hq11.trL hs71 (MIL.cons (MI.app (MI.root (by simp)) (nx305) (Nat.le_refl _)) MIL.nil)
            have hz46 := hs71.size
            have hle_ow8 := ow8.le
            refine ⟨.inr hq11, LH.narrow (SH2 := fun Hq => Mo (Ms [k71]) H71 Hq) (fun Hq hq => hq11.trL hq (MIL.cons (MI.app (MI.root (by simp)) (nx312) (Nat.le_refl _)) MIL.nil)) ?_⟩
            have hq11 : Mo (Ms [k71]) H71 H71 := Mo.refl _ _
            have nx313 := Nx.refl k71 H71.size
            refine LH.take 10 (by kernel_rfl) rfl (by kernel_rfl) (by kernel_rfl) (by kernel_rfl) (fun Hq hq => Y.assign rfl rfl) (Wd.u rfl) rfl rfl hq11 ?_
            refine LH.done (by kernel_rfl) ?_
            refine hK26 _ _ ?_
            refine CW.seq (fun K28 hK28 hE28 => ?_)
            refine CW.region ?_
            refine LR.v (Y.move rfl rfl) (Wd.u rfl) rfl rfl ?_
            refine LR.v (Y.assign rfl rfl) (Wd.u rfl) rfl rfl ?_
            refine LR.nil ?_
            refine hK28 _ _ ?_
            refine CW.ret (hret .ret (.inr rfl) _ _ _ (res1 rfl rfl) ?_)
            exact ⟨_, k71, p, s, rfl, hE, by
                unfold mkL
                first | rw [if_pos (show 0 < p by omega)] | rw [if_neg (show ¬ 0 < p by omega)]
                first | rw [if_pos (show 0 < (mid tg p s).length by omega)] | rw [if_neg (show ¬ 0 < (mid tg p s).length by omega)]
                first | rw [if_pos (show 0 < s by omega)] | rw [if_neg (show ¬ 0 < s by omega)]
                simpa [cp] using ow8, nx311, hm0⟩
          ·
            refine LO.z rfl (Z.litw _ (([bs.length - s, s].map (fun n : Nat => (n : Int)))) rfl inf31 rfl rfl rfl (by decide) (by decide) fI_len fI_one (rfl)) (Wd.u rfl) rfl rfl (fun v70 H70 r70 => ?_)
            obtain ⟨ow70, hs70, ob70, hH70⟩ := r70
            have hzs70 : H70.size = H63.size + 1 := by rw [hH70]; simp
            have df314 := (DF.new (bf_hb.mono hm0.size) : DF _ (H63.size + 1))
            have df315 := (DF.new (bf_ht.mono hm0.size) : DF _ (H63.size + 1))
            have dj316 : Dj (H0.size + 1) (H63.size + 1) := Dj.new va2.lt
            have dj317 : Dj k59 (H63.size + 1) := Dj.new ow8.le
            have dj318 : Dj (H59.size + 1) (H63.size + 1) := Dj.new ow63.le
            have nx319 : Nx 0 H0.size (H63.size + 1) := Nx.new hm0.size
            have nx320 : Nx 0 H63.size (H63.size + 1) := Nx.new hq11.size
            replace hb := hb.nw hs70
            replace ht := ht.nw hs70
            replace va2 := va2.nw hs70
            replace ow8 := ow8.nw hs70
            replace ow63 := ow63.nw hs70
            replace hm0 := hm0.tr hs70
            replace hq11 := hq11.trN hs70
            have hz47 := hs70.size
            refine ⟨.inr hq11, LH.narrow (SH2 := fun Hq => Mo (Ms [k59]) H70 Hq) (fun Hq hq => hq11.trL hq (MIL.cons (MI.app (MI.root (by simp)) (nx290) (Nat.le_refl _)) MIL.nil)) ?_⟩
            have hq11 : Mo (Ms [k59]) H70 H70 := Mo.refl _ _
            have nx321 := Nx.refl k59 H70.size
            refine LH.one (i := 2) (by kernel_rfl) ?_
            refine LO.z rfl (Z.apnd ow8 ow63.rd rfl inf22 rfl rfl (by first | (simp [be32_len, cp]; done) | (simp [be32_len, cp]; omega)) (by first | (simp [be32_len, cp]; done) | (simp [be32_len, cp]; omega))) (Wd.u rfl) rfl rfl (fun v64 H64 r64 => ?_)
            obtain ⟨k64, ow64, hk64, hs64⟩ := r64
            replace hk64 : Nx k59 H70.size k64 := hk64
            replace hs64 := hs64.md
            have df322 := DF.app (df276) (bf_hb.mono hm0.size) hk64
            have df323 := DF.app (df277) (bf_ht.mono hm0.size) hk64
            have dj324 : Dj (H0.size + 1) k64 := Dj.app (dj278) va2.lt hk64
            have dj325 : Dj (H59.size + 1) k64 := Dj.app (dj287.symm) ow63.le hk64
            have dj326 : Dj (H63.size + 1) k64 := Dj.app (dj317.symm) ow70.le hk64
            have nx327 : Nx 0 H0.size k64 := Nx.tr (nx282) hk64 hm0.size
            have nx328 : Nx k59 H70.size k64 := Nx.tr (nx321) hk64 hq11.size
            replace hb := hb.upL hs64 (DFL.cons df276 DFL.nil)
            replace ht := ht.upL hs64 (DFL.cons df277 DFL.nil)
            replace va2 := va2.upL hs64 (DL.cons dj278 DL.nil)
            replace ow63 := ow63.upL hs64 (DL.cons dj287.symm DL.nil)
            replace ow70 := ow70.upL hs64 (DL.cons dj317.symm DL.nil)
            replace hm0 := (Mo.trL (ks := []) (hm0.mdn []) hs64 (MIL.cons (MI.app MI.z (nx282) (Nat.le_refl _)) MIL.nil)).nil
            replace hq11 := hq11.trL hs64 (MIL.cons (MI.app (MI.root (by simp)) (nx321) (Nat.le_refl _)) MIL.nil)
            have hz48 := hs64.size
            have hle_ow64 := ow64.le
            refine ⟨.inr hq11, LH.narrow (SH2 := fun Hq => Mo (Ms [k64]) H64 Hq) (fun Hq hq => hq11.trL hq (MIL.cons (MI.app (MI.root (by simp)) (nx328) (Nat.le_refl _)) MIL.nil)) ?_⟩
            have hq11 : Mo (Ms [k64]) H64 H64 := Mo.refl _ _
            have nx329 := Nx.refl k64 H64.size
            refine LH.one (i := 9) (by kernel_rfl) ?_
            -- call selvage/delta.number
            refine LO.call rfl rfl Try.call20 rfl (Wd.u rfl) rfl rfl (number_ct k64 _ _ _ [bs.length - s, s] w0 _ ow64 (ow70.rd.imp (fun b _ h => (dj326) b h)) (by simp) (by first | (simp [be32_len, cp]; done) | (simp [be32_len, cp]; omega))) (fun v71 H71 r71 => ?_)
            obtain ⟨v271, k71, rfl, ow8, hk71, hs71⟩ := r71
            have df330 := DF.app (df322) (bf_hb.mono hm0.size) hk71
            have df331 := DF.app (df323) (bf_ht.mono hm0.size) hk71
            have dj332 : Dj (H0.size + 1) k71 := Dj.app (dj324) va2.lt hk71
            have dj333 : Dj (H59.size + 1) k71 := Dj.app (dj325) ow63.le hk71
            have dj334 : Dj (H63.size + 1) k71 := Dj.app (dj326) ow70.le hk71
            have nx335 : Nx 0 H0.size k71 := Nx.tr (nx327) hk71 hm0.size
            have nx336 : Nx k64 H64.size k71 := Nx.tr (nx329) hk71 hq11.size
            replace hb := hb.upL hs71 (DFL.cons df322 DFL.nil)
            replace ht := ht.upL hs71 (DFL.cons df323 DFL.nil)
            replace va2 := va2.upL hs71 (DL.cons dj324 DL.nil)
            replace ow63 := ow63.upL hs71 (DL.cons dj325 DL.nil)
            replace ow70 := ow70.upL hs71 (DL.cons dj326 DL.nil)
            replace hm0 := (Mo.trL (ks := []) (hm0.mdn []) hs71 (MIL.cons (MI.app MI.z (nx327) (Nat.le_refl _)) MIL.nil)).nil
            replace hq11 := hq11.trL hs71 (MIL.cons (MI.app (MI.root (by simp)) (nx329) (Nat.le_refl _)) MIL.nil)
            have hz49 := hs71.size
            have hle_ow8 := ow8.le
            refine ⟨.inr hq11, LH.narrow (SH2 := fun Hq => Mo (Ms [k71]) H71 Hq) (fun Hq hq => hq11.trL hq (MIL.cons (MI.app (MI.root (by simp)) (nx336) (Nat.le_refl _)) MIL.nil)) ?_⟩
            have hq11 : Mo (Ms [k71]) H71 H71 := Mo.refl _ _
            have nx337 := Nx.refl k71 H71.size
            refine LH.take 10 (by kernel_rfl) rfl (by kernel_rfl) (by kernel_rfl) (by kernel_rfl) (fun Hq hq => Y.assign rfl rfl) (Wd.u rfl) rfl rfl hq11 ?_
            refine LH.done (by kernel_rfl) ?_
            refine hK26 _ _ ?_
            refine CW.seq (fun K29 hK29 hE29 => ?_)
            refine CW.region ?_
            refine LR.v (Y.move rfl rfl) (Wd.u rfl) rfl rfl ?_
            refine LR.v (Y.assign rfl rfl) (Wd.u rfl) rfl rfl ?_
            refine LR.nil ?_
            refine hK29 _ _ ?_
            refine CW.ret (hret .ret (.inr rfl) _ _ _ (res1 rfl rfl) ?_)
            exact ⟨_, k71, p, s, rfl, hE, by
                unfold mkL
                first | rw [if_pos (show 0 < p by omega)] | rw [if_neg (show ¬ 0 < p by omega)]
                first | rw [if_pos (show 0 < (mid tg p s).length by omega)] | rw [if_neg (show ¬ 0 < (mid tg p s).length by omega)]
                first | rw [if_pos (show 0 < s by omega)] | rw [if_neg (show ¬ 0 < s by omega)]
                simpa [cp] using ow8, nx335, hm0⟩
        ·
          refine LO.z rfl (Z.litw _ (([bs.length - s, s].map (fun n : Nat => (n : Int)))) rfl inf31 rfl rfl rfl (by decide) (by decide) fI_len fI_one (rfl)) (Wd.u rfl) rfl rfl (fun v70 H70 r70 => ?_)
          obtain ⟨ow70, hs70, ob70, hH70⟩ := r70
          have hzs70 : H70.size = H59.size + 1 := by rw [hH70]; simp
          have df338 := (DF.new (bf_hb.mono hm0.size) : DF _ (H59.size + 1))
          have df339 := (DF.new (bf_ht.mono hm0.size) : DF _ (H59.size + 1))
          have dj340 : Dj (H0.size + 1) (H59.size + 1) := Dj.new va2.lt
          have dj341 : Dj k59 (H59.size + 1) := Dj.new ow8.le
          have nx342 : Nx 0 H0.size (H59.size + 1) := Nx.new hm0.size
          have nx343 : Nx 0 H59.size (H59.size + 1) := Nx.new hq11.size
          replace hb := hb.nw hs70
          replace ht := ht.nw hs70
          replace va2 := va2.nw hs70
          replace ow8 := ow8.nw hs70
          replace hm0 := hm0.tr hs70
          replace hq11 := hq11.trN hs70
          have hz50 := hs70.size
          refine ⟨.inr hq11, LH.narrow (SH2 := fun Hq => Mo (Ms [k59]) H70 Hq) (fun Hq hq => hq11.trL hq (MIL.cons (MI.app (MI.root (by simp)) (nx283) (Nat.le_refl _)) MIL.nil)) ?_⟩
          have hq11 : Mo (Ms [k59]) H70 H70 := Mo.refl _ _
          have nx344 := Nx.refl k59 H70.size
          refine LH.one (i := 1) (by kernel_rfl) ?_
          refine LO.z rfl (Z.litw _ ([(1 : UInt8)]) rfl inf22 rfl rfl rfl (by decide) (by decide) fB_len fB_one (rfl)) (Wd.u rfl) rfl rfl (fun v63 H63 r63 => ?_)
          obtain ⟨ow63, hs63, ob63, hH63⟩ := r63
          have hzs63 : H63.size = H70.size + 1 := by rw [hH63]; simp
          have df345 := (DF.new (bf_hb.mono hm0.size) : DF _ (H70.size + 1))
          have df346 := (DF.new (bf_ht.mono hm0.size) : DF _ (H70.size + 1))
          have dj347 : Dj (H0.size + 1) (H70.size + 1) := Dj.new va2.lt
          have dj348 : Dj k59 (H70.size + 1) := Dj.new ow8.le
          have dj349 : Dj (H59.size + 1) (H70.size + 1) := Dj.new ow70.le
          have nx350 : Nx 0 H0.size (H70.size + 1) := Nx.new hm0.size
          have nx351 : Nx 0 H70.size (H70.size + 1) := Nx.new hq11.size
          replace hb := hb.nw hs63
          replace ht := ht.nw hs63
          replace va2 := va2.nw hs63
          replace ow8 := ow8.nw hs63
          replace ow70 := ow70.nw hs63
          replace hm0 := hm0.tr hs63
          replace hq11 := hq11.trN hs63
          have hz51 := hs63.size
          refine ⟨.inr hq11, LH.narrow (SH2 := fun Hq => Mo (Ms [k59]) H63 Hq) (fun Hq hq => hq11.trL hq (MIL.cons (MI.app (MI.root (by simp)) (nx344) (Nat.le_refl _)) MIL.nil)) ?_⟩
          have hq11 : Mo (Ms [k59]) H63 H63 := Mo.refl _ _
          have nx352 := Nx.refl k59 H63.size
          refine LH.one (i := 2) (by kernel_rfl) ?_
          refine LO.z rfl (Z.apnd ow8 ow63.rd rfl inf22 rfl rfl (by first | (simp [be32_len, cp]; done) | (simp [be32_len, cp]; omega)) (by first | (simp [be32_len, cp]; done) | (simp [be32_len, cp]; omega))) (Wd.u rfl) rfl rfl (fun v64 H64 r64 => ?_)
          obtain ⟨k64, ow64, hk64, hs64⟩ := r64
          replace hk64 : Nx k59 H63.size k64 := hk64
          replace hs64 := hs64.md
          have df353 := DF.app (df276) (bf_hb.mono hm0.size) hk64
          have df354 := DF.app (df277) (bf_ht.mono hm0.size) hk64
          have dj355 : Dj (H0.size + 1) k64 := Dj.app (dj278) va2.lt hk64
          have dj356 : Dj (H59.size + 1) k64 := Dj.app (dj341.symm) ow70.le hk64
          have dj357 : Dj (H70.size + 1) k64 := Dj.app (dj348.symm) ow63.le hk64
          have nx358 : Nx 0 H0.size k64 := Nx.tr (nx282) hk64 hm0.size
          have nx359 : Nx k59 H63.size k64 := Nx.tr (nx352) hk64 hq11.size
          replace hb := hb.upL hs64 (DFL.cons df276 DFL.nil)
          replace ht := ht.upL hs64 (DFL.cons df277 DFL.nil)
          replace va2 := va2.upL hs64 (DL.cons dj278 DL.nil)
          replace ow70 := ow70.upL hs64 (DL.cons dj341.symm DL.nil)
          replace ow63 := ow63.upL hs64 (DL.cons dj348.symm DL.nil)
          replace hm0 := (Mo.trL (ks := []) (hm0.mdn []) hs64 (MIL.cons (MI.app MI.z (nx282) (Nat.le_refl _)) MIL.nil)).nil
          replace hq11 := hq11.trL hs64 (MIL.cons (MI.app (MI.root (by simp)) (nx352) (Nat.le_refl _)) MIL.nil)
          have hz52 := hs64.size
          have hle_ow64 := ow64.le
          refine ⟨.inr hq11, LH.narrow (SH2 := fun Hq => Mo (Ms [k64]) H64 Hq) (fun Hq hq => hq11.trL hq (MIL.cons (MI.app (MI.root (by simp)) (nx359) (Nat.le_refl _)) MIL.nil)) ?_⟩
          have hq11 : Mo (Ms [k64]) H64 H64 := Mo.refl _ _
          have nx360 := Nx.refl k64 H64.size
          refine LH.one (i := 9) (by kernel_rfl) ?_
          -- call selvage/delta.number
          refine LO.call rfl rfl Try.call20 rfl (Wd.u rfl) rfl rfl (number_ct k64 _ _ _ [bs.length - s, s] w0 _ ow64 (ow70.rd.imp (fun b _ h => (dj356) b h)) (by simp) (by first | (simp [be32_len, cp]; done) | (simp [be32_len, cp]; omega))) (fun v71 H71 r71 => ?_)
          obtain ⟨v271, k71, rfl, ow8, hk71, hs71⟩ := r71
          have df361 := DF.app (df353) (bf_hb.mono hm0.size) hk71
          have df362 := DF.app (df354) (bf_ht.mono hm0.size) hk71
          have dj363 : Dj (H0.size + 1) k71 := Dj.app (dj355) va2.lt hk71
          have dj364 : Dj (H59.size + 1) k71 := Dj.app (dj356) ow70.le hk71
          have dj365 : Dj (H70.size + 1) k71 := Dj.app (dj357) ow63.le hk71
          have nx366 : Nx 0 H0.size k71 := Nx.tr (nx358) hk71 hm0.size
          have nx367 : Nx k64 H64.size k71 := Nx.tr (nx360) hk71 hq11.size
          replace hb := hb.upL hs71 (DFL.cons df353 DFL.nil)
          replace ht := ht.upL hs71 (DFL.cons df354 DFL.nil)
          replace va2 := va2.upL hs71 (DL.cons dj355 DL.nil)
          replace ow70 := ow70.upL hs71 (DL.cons dj356 DL.nil)
          replace ow63 := ow63.upL hs71 (DL.cons dj357 DL.nil)
          replace hm0 := (Mo.trL (ks := []) (hm0.mdn []) hs71 (MIL.cons (MI.app MI.z (nx358) (Nat.le_refl _)) MIL.nil)).nil
          replace hq11 := hq11.trL hs71 (MIL.cons (MI.app (MI.root (by simp)) (nx360) (Nat.le_refl _)) MIL.nil)
          have hz53 := hs71.size
          have hle_ow8 := ow8.le
          refine ⟨.inr hq11, LH.narrow (SH2 := fun Hq => Mo (Ms [k71]) H71 Hq) (fun Hq hq => hq11.trL hq (MIL.cons (MI.app (MI.root (by simp)) (nx367) (Nat.le_refl _)) MIL.nil)) ?_⟩
          have hq11 : Mo (Ms [k71]) H71 H71 := Mo.refl _ _
          have nx368 := Nx.refl k71 H71.size
          refine LH.take 10 (by kernel_rfl) rfl (by kernel_rfl) (by kernel_rfl) (by kernel_rfl) (fun Hq hq => Y.assign rfl rfl) (Wd.u rfl) rfl rfl hq11 ?_
          refine LH.done (by kernel_rfl) ?_
          refine hK26 _ _ ?_
          refine CW.seq (fun K30 hK30 hE30 => ?_)
          refine CW.region ?_
          refine LR.v (Y.move rfl rfl) (Wd.u rfl) rfl rfl ?_
          refine LR.v (Y.assign rfl rfl) (Wd.u rfl) rfl rfl ?_
          refine LR.nil ?_
          refine hK30 _ _ ?_
          refine CW.ret (hret .ret (.inr rfl) _ _ _ (res1 rfl rfl) ?_)
          exact ⟨_, k71, p, s, rfl, hE, by
              unfold mkL
              first | rw [if_pos (show 0 < p by omega)] | rw [if_neg (show ¬ 0 < p by omega)]
              first | rw [if_pos (show 0 < (mid tg p s).length by omega)] | rw [if_neg (show ¬ 0 < (mid tg p s).length by omega)]
              first | rw [if_pos (show 0 < s by omega)] | rw [if_neg (show ¬ 0 < s by omega)]
              simpa [cp] using ow8, nx366, hm0⟩
      ·
        refine CW.skip ?_
        refine hK26 _ _ ?_
        refine CW.seq (fun K31 hK31 hE31 => ?_)
        refine CW.region ?_
        refine LR.v (Y.move rfl rfl) (Wd.u rfl) rfl rfl ?_
        refine LR.v (Y.assign rfl rfl) (Wd.u rfl) rfl rfl ?_
        refine LR.nil ?_
        refine hK31 _ _ ?_
        refine CW.ret (hret .ret (.inr rfl) _ _ _ (res1 rfl rfl) ?_)
        exact ⟨_, k59, p, s, rfl, hE, by
            unfold mkL
            first | rw [if_pos (show 0 < p by omega)] | rw [if_neg (show ¬ 0 < p by omega)]
            first | rw [if_pos (show 0 < (mid tg p s).length by omega)] | rw [if_neg (show ¬ 0 < (mid tg p s).length by omega)]
            first | rw [if_pos (show 0 < s by omega)] | rw [if_neg (show ¬ 0 < s by omega)]
            simpa [cp] using ow8, nx282, hm0⟩
    ·
      refine CW.skip ?_
      refine hK23 _ _ ?_
      refine CW.seq (fun K32 hK32 hE32 => ?_)
      refine CW.seq (fun K33 hK33 hE33 => ?_)
      refine CW.region ?_
      refine LR.v (Y.move rfl rfl) (Wd.u rfl) rfl rfl ?_
      refine LR.v (Y.gtr rfl rfl rfl) (Wd.u rfl) rfl rfl ?_
      refine LR.nil ?_
      refine hK33 _ _ ?_
      refine CW.condp rfl (fun c61 => ?_) (fun c61 => ?_)
      ·
        refine CW.region_any (fun Hq => Mo (Ms [k8]) H28 Hq) [] rfl ?_
        have hq11 : Mo (Ms [k8]) H28 H28 := Mo.refl _ _
        have nx369 := Nx.refl k8 H28.size
        refine LH.take 0 (by kernel_rfl) rfl (by kernel_rfl) (by kernel_rfl) (by kernel_rfl) (fun Hq hq => Y.move rfl rfl) (Wd.u rfl) rfl rfl hq11 ?_
        refine LH.take 3 (by kernel_rfl) rfl (by kernel_rfl) (by kernel_rfl) (by kernel_rfl) (fun Hq hq => Y.load1 (va2.upL hq (DL.cons dj15 DL.nil)).pt rfl Try.isAgg22 rfl) (Wd.u rfl) rfl rfl hq11 ?_
        refine LH.take 4 (by kernel_rfl) rfl (by kernel_rfl) (by kernel_rfl) (by kernel_rfl) (fun Hq hq => Y.len (hb.upL hq (DFL.cons df13 DFL.nil)) rfl Try.runUnderlying22 rfl) (Wd.u rfl) rfl rfl hq11 ?_
        refine LH.take 5 (by kernel_rfl) rfl (by kernel_rfl) (by kernel_rfl) (by kernel_rfl) (fun Hq hq => Y.move rfl rfl) (Wd.u rfl) rfl rfl hq11 ?_
        refine LH.take 6 (by kernel_rfl) rfl (by kernel_rfl) (by kernel_rfl) (by kernel_rfl) (fun Hq hq => Y.cast (v2 := .int .i64 ((bs.length - s : Nat) : Int)) (Y.subi rfl rfl rfl (by omega)) (ivv (by omega))) (Wd.u rfl) rfl rfl hq11 ?_
        refine LH.take 7 (by kernel_rfl) rfl (by kernel_rfl) (by kernel_rfl) (by kernel_rfl) (fun Hq hq => Y.move rfl rfl) (Wd.u rfl) rfl rfl hq11 ?_
        refine LH.two (i := 1) (j := 8) (by kernel_rfl) ?_ ?_
        ·
          refine LO.z rfl (Z.litw _ ([(1 : UInt8)]) rfl inf22 rfl rfl rfl (by decide) (by decide) fB_len fB_one (rfl)) (Wd.u rfl) rfl rfl (fun v63 H63 r63 => ?_)
          obtain ⟨ow63, hs63, ob63, hH63⟩ := r63
          have hzs63 : H63.size = H28.size + 1 := by rw [hH63]; simp
          have df370 := (DF.new (bf_hb.mono hm0.size) : DF _ (H28.size + 1))
          have df371 := (DF.new (bf_ht.mono hm0.size) : DF _ (H28.size + 1))
          have dj372 : Dj (H0.size + 1) (H28.size + 1) := Dj.new va2.lt
          have dj373 : Dj k8 (H28.size + 1) := Dj.new ow8.le
          have nx374 : Nx 0 H0.size (H28.size + 1) := Nx.new hm0.size
          have nx375 : Nx 0 H28.size (H28.size + 1) := Nx.new hq11.size
          replace hb := hb.nw hs63
          replace ht := ht.nw hs63
          replace va2 := va2.nw hs63
          replace ow8 := ow8.nw hs63
          replace hm0 := hm0.tr hs63
          replace hq11 := hq11.trN hs63
          have hz54 := hs63.size
          refine ⟨.inr hq11, LH.narrow (SH2 := fun Hq => Mo (Ms [k8]) H63 Hq) (fun Hq hq => hq11.trL hq (MIL.cons (MI.app (MI.root (by simp)) (nx369) (Nat.le_refl _)) MIL.nil)) ?_⟩
          have hq11 : Mo (Ms [k8]) H63 H63 := Mo.refl _ _
          have nx376 := Nx.refl k8 H63.size
          refine LH.two (i := 2) (j := 8) (by kernel_rfl) ?_ ?_
          ·
            refine LO.z rfl (Z.apnd ow8 ow63.rd rfl inf22 rfl rfl (by first | (simp [be32_len, cp]; done) | (simp [be32_len, cp]; omega)) (by first | (simp [be32_len, cp]; done) | (simp [be32_len, cp]; omega))) (Wd.u rfl) rfl rfl (fun v64 H64 r64 => ?_)
            obtain ⟨k64, ow64, hk64, hs64⟩ := r64
            replace hk64 : Nx k8 H63.size k64 := hk64
            replace hs64 := hs64.md
            have df377 := DF.app (df13) (bf_hb.mono hm0.size) hk64
            have df378 := DF.app (df14) (bf_ht.mono hm0.size) hk64
            have dj379 : Dj (H0.size + 1) k64 := Dj.app (dj15) va2.lt hk64
            have dj380 : Dj (H28.size + 1) k64 := Dj.app (dj373.symm) ow63.le hk64
            have nx381 : Nx 0 H0.size k64 := Nx.tr (nx18) hk64 hm0.size
            have nx382 : Nx k8 H63.size k64 := Nx.tr (nx376) hk64 hq11.size
            replace hb := hb.upL hs64 (DFL.cons df13 DFL.nil)
            replace ht := ht.upL hs64 (DFL.cons df14 DFL.nil)
            replace va2 := va2.upL hs64 (DL.cons dj15 DL.nil)
            replace ow63 := ow63.upL hs64 (DL.cons dj373.symm DL.nil)
            replace hm0 := (Mo.trL (ks := []) (hm0.mdn []) hs64 (MIL.cons (MI.app MI.z (nx18) (Nat.le_refl _)) MIL.nil)).nil
            replace hq11 := hq11.trL hs64 (MIL.cons (MI.app (MI.root (by simp)) (nx376) (Nat.le_refl _)) MIL.nil)
            have hz55 := hs64.size
            have hle_ow64 := ow64.le
            refine ⟨.inr hq11, LH.narrow (SH2 := fun Hq => Mo (Ms [k64]) H64 Hq) (fun Hq hq => hq11.trL hq (MIL.cons (MI.app (MI.root (by simp)) (nx382) (Nat.le_refl _)) MIL.nil)) ?_⟩
            have hq11 : Mo (Ms [k64]) H64 H64 := Mo.refl _ _
            have nx383 := Nx.refl k64 H64.size
            refine LH.one (i := 8) (by kernel_rfl) ?_
            refine LO.z rfl (Z.litw _ (([bs.length - s, s].map (fun n : Nat => (n : Int)))) rfl inf31 rfl rfl rfl (by decide) (by decide) fI_len fI_one (rfl)) (Wd.u rfl) rfl rfl (fun v70 H70 r70 => ?_)
            obtain ⟨ow70, hs70, ob70, hH70⟩ := r70
            have hzs70 : H70.size = H64.size + 1 := by rw [hH70]; simp
            have df384 := (DF.new (bf_hb.mono hm0.size) : DF _ (H64.size + 1))
            have df385 := (DF.new (bf_ht.mono hm0.size) : DF _ (H64.size + 1))
            have dj386 : Dj (H0.size + 1) (H64.size + 1) := Dj.new va2.lt
            have dj387 : Dj (H28.size + 1) (H64.size + 1) := Dj.new ow63.le
            have dj388 : Dj k64 (H64.size + 1) := Dj.new ow64.le
            have nx389 : Nx 0 H0.size (H64.size + 1) := Nx.new hm0.size
            have nx390 : Nx 0 H64.size (H64.size + 1) := Nx.new hq11.size
            replace hb := hb.nw hs70
            replace ht := ht.nw hs70
            replace va2 := va2.nw hs70
            replace ow63 := ow63.nw hs70
            replace ow64 := ow64.nw hs70
            replace hm0 := hm0.tr hs70
            replace hq11 := hq11.trN hs70
            have hz56 := hs70.size
            refine ⟨.inr hq11, LH.narrow (SH2 := fun Hq => Mo (Ms [k64]) H70 Hq) (fun Hq hq => hq11.trL hq (MIL.cons (MI.app (MI.root (by simp)) (nx383) (Nat.le_refl _)) MIL.nil)) ?_⟩
            have hq11 : Mo (Ms [k64]) H70 H70 := Mo.refl _ _
            have nx391 := Nx.refl k64 H70.size
            refine LH.one (i := 9) (by kernel_rfl) ?_
            -- call selvage/delta.number
            refine LO.call rfl rfl Try.call20 rfl (Wd.u rfl) rfl rfl (number_ct k64 _ _ _ [bs.length - s, s] w0 _ ow64 (ow70.rd.imp (fun b _ h => (dj388.symm) b h)) (by simp) (by first | (simp [be32_len, cp]; done) | (simp [be32_len, cp]; omega))) (fun v71 H71 r71 => ?_)
            obtain ⟨v271, k71, rfl, ow8, hk71, hs71⟩ := r71
            have df392 := DF.app (df377) (bf_hb.mono hm0.size) hk71
            have df393 := DF.app (df378) (bf_ht.mono hm0.size) hk71
            have dj394 : Dj (H0.size + 1) k71 := Dj.app (dj379) va2.lt hk71
            have dj395 : Dj (H28.size + 1) k71 := Dj.app (dj380) ow63.le hk71
            have dj396 : Dj (H64.size + 1) k71 := Dj.app (dj388.symm) ow70.le hk71
            have nx397 : Nx 0 H0.size k71 := Nx.tr (nx381) hk71 hm0.size
            have nx398 : Nx k64 H70.size k71 := Nx.tr (nx391) hk71 hq11.size
            replace hb := hb.upL hs71 (DFL.cons df377 DFL.nil)
            replace ht := ht.upL hs71 (DFL.cons df378 DFL.nil)
            replace va2 := va2.upL hs71 (DL.cons dj379 DL.nil)
            replace ow63 := ow63.upL hs71 (DL.cons dj380 DL.nil)
            replace ow70 := ow70.upL hs71 (DL.cons dj388.symm DL.nil)
            replace hm0 := (Mo.trL (ks := []) (hm0.mdn []) hs71 (MIL.cons (MI.app MI.z (nx381) (Nat.le_refl _)) MIL.nil)).nil
            replace hq11 := hq11.trL hs71 (MIL.cons (MI.app (MI.root (by simp)) (nx391) (Nat.le_refl _)) MIL.nil)
            have hz57 := hs71.size
            have hle_ow8 := ow8.le
            refine ⟨.inr hq11, LH.narrow (SH2 := fun Hq => Mo (Ms [k71]) H71 Hq) (fun Hq hq => hq11.trL hq (MIL.cons (MI.app (MI.root (by simp)) (nx398) (Nat.le_refl _)) MIL.nil)) ?_⟩
            have hq11 : Mo (Ms [k71]) H71 H71 := Mo.refl _ _
            have nx399 := Nx.refl k71 H71.size
            refine LH.take 10 (by kernel_rfl) rfl (by kernel_rfl) (by kernel_rfl) (by kernel_rfl) (fun Hq hq => Y.assign rfl rfl) (Wd.u rfl) rfl rfl hq11 ?_
            refine LH.done (by kernel_rfl) ?_
            refine hK32 _ _ ?_
            refine CW.seq (fun K34 hK34 hE34 => ?_)
            refine CW.region ?_
            refine LR.v (Y.move rfl rfl) (Wd.u rfl) rfl rfl ?_
            refine LR.v (Y.assign rfl rfl) (Wd.u rfl) rfl rfl ?_
            refine LR.nil ?_
            refine hK34 _ _ ?_
            refine CW.ret (hret .ret (.inr rfl) _ _ _ (res1 rfl rfl) ?_)
            exact ⟨_, k71, p, s, rfl, hE, by
                unfold mkL
                first | rw [if_pos (show 0 < p by omega)] | rw [if_neg (show ¬ 0 < p by omega)]
                first | rw [if_pos (show 0 < (mid tg p s).length by omega)] | rw [if_neg (show ¬ 0 < (mid tg p s).length by omega)]
                first | rw [if_pos (show 0 < s by omega)] | rw [if_neg (show ¬ 0 < s by omega)]
                simpa [cp] using ow8, nx397, hm0⟩
          ·
            refine LO.z rfl (Z.litw _ (([bs.length - s, s].map (fun n : Nat => (n : Int)))) rfl inf31 rfl rfl rfl (by decide) (by decide) fI_len fI_one (rfl)) (Wd.u rfl) rfl rfl (fun v70 H70 r70 => ?_)
            obtain ⟨ow70, hs70, ob70, hH70⟩ := r70
            have hzs70 : H70.size = H63.size + 1 := by rw [hH70]; simp
            have df400 := (DF.new (bf_hb.mono hm0.size) : DF _ (H63.size + 1))
            have df401 := (DF.new (bf_ht.mono hm0.size) : DF _ (H63.size + 1))
            have dj402 : Dj (H0.size + 1) (H63.size + 1) := Dj.new va2.lt
            have dj403 : Dj k8 (H63.size + 1) := Dj.new ow8.le
            have dj404 : Dj (H28.size + 1) (H63.size + 1) := Dj.new ow63.le
            have nx405 : Nx 0 H0.size (H63.size + 1) := Nx.new hm0.size
            have nx406 : Nx 0 H63.size (H63.size + 1) := Nx.new hq11.size
            replace hb := hb.nw hs70
            replace ht := ht.nw hs70
            replace va2 := va2.nw hs70
            replace ow8 := ow8.nw hs70
            replace ow63 := ow63.nw hs70
            replace hm0 := hm0.tr hs70
            replace hq11 := hq11.trN hs70
            have hz58 := hs70.size
            refine ⟨.inr hq11, LH.narrow (SH2 := fun Hq => Mo (Ms [k8]) H70 Hq) (fun Hq hq => hq11.trL hq (MIL.cons (MI.app (MI.root (by simp)) (nx376) (Nat.le_refl _)) MIL.nil)) ?_⟩
            have hq11 : Mo (Ms [k8]) H70 H70 := Mo.refl _ _
            have nx407 := Nx.refl k8 H70.size
            refine LH.one (i := 2) (by kernel_rfl) ?_
            refine LO.z rfl (Z.apnd ow8 ow63.rd rfl inf22 rfl rfl (by first | (simp [be32_len, cp]; done) | (simp [be32_len, cp]; omega)) (by first | (simp [be32_len, cp]; done) | (simp [be32_len, cp]; omega))) (Wd.u rfl) rfl rfl (fun v64 H64 r64 => ?_)
            obtain ⟨k64, ow64, hk64, hs64⟩ := r64
            replace hk64 : Nx k8 H70.size k64 := hk64
            replace hs64 := hs64.md
            have df408 := DF.app (df13) (bf_hb.mono hm0.size) hk64
            have df409 := DF.app (df14) (bf_ht.mono hm0.size) hk64
            have dj410 : Dj (H0.size + 1) k64 := Dj.app (dj15) va2.lt hk64
            have dj411 : Dj (H28.size + 1) k64 := Dj.app (dj373.symm) ow63.le hk64
            have dj412 : Dj (H63.size + 1) k64 := Dj.app (dj403.symm) ow70.le hk64
            have nx413 : Nx 0 H0.size k64 := Nx.tr (nx18) hk64 hm0.size
            have nx414 : Nx k8 H70.size k64 := Nx.tr (nx407) hk64 hq11.size
            replace hb := hb.upL hs64 (DFL.cons df13 DFL.nil)
            replace ht := ht.upL hs64 (DFL.cons df14 DFL.nil)
            replace va2 := va2.upL hs64 (DL.cons dj15 DL.nil)
            replace ow63 := ow63.upL hs64 (DL.cons dj373.symm DL.nil)
            replace ow70 := ow70.upL hs64 (DL.cons dj403.symm DL.nil)
            replace hm0 := (Mo.trL (ks := []) (hm0.mdn []) hs64 (MIL.cons (MI.app MI.z (nx18) (Nat.le_refl _)) MIL.nil)).nil
            replace hq11 := hq11.trL hs64 (MIL.cons (MI.app (MI.root (by simp)) (nx407) (Nat.le_refl _)) MIL.nil)
            have hz59 := hs64.size
            have hle_ow64 := ow64.le
            refine ⟨.inr hq11, LH.narrow (SH2 := fun Hq => Mo (Ms [k64]) H64 Hq) (fun Hq hq => hq11.trL hq (MIL.cons (MI.app (MI.root (by simp)) (nx414) (Nat.le_refl _)) MIL.nil)) ?_⟩
            have hq11 : Mo (Ms [k64]) H64 H64 := Mo.refl _ _
            have nx415 := Nx.refl k64 H64.size
            refine LH.one (i := 9) (by kernel_rfl) ?_
            -- call selvage/delta.number
            refine LO.call rfl rfl Try.call20 rfl (Wd.u rfl) rfl rfl (number_ct k64 _ _ _ [bs.length - s, s] w0 _ ow64 (ow70.rd.imp (fun b _ h => (dj412) b h)) (by simp) (by first | (simp [be32_len, cp]; done) | (simp [be32_len, cp]; omega))) (fun v71 H71 r71 => ?_)
            obtain ⟨v271, k71, rfl, ow8, hk71, hs71⟩ := r71
            have df416 := DF.app (df408) (bf_hb.mono hm0.size) hk71
            have df417 := DF.app (df409) (bf_ht.mono hm0.size) hk71
            have dj418 : Dj (H0.size + 1) k71 := Dj.app (dj410) va2.lt hk71
            have dj419 : Dj (H28.size + 1) k71 := Dj.app (dj411) ow63.le hk71
            have dj420 : Dj (H63.size + 1) k71 := Dj.app (dj412) ow70.le hk71
            have nx421 : Nx 0 H0.size k71 := Nx.tr (nx413) hk71 hm0.size
            have nx422 : Nx k64 H64.size k71 := Nx.tr (nx415) hk71 hq11.size
            replace hb := hb.upL hs71 (DFL.cons df408 DFL.nil)
            replace ht := ht.upL hs71 (DFL.cons df409 DFL.nil)
            replace va2 := va2.upL hs71 (DL.cons dj410 DL.nil)
            replace ow63 := ow63.upL hs71 (DL.cons dj411 DL.nil)
            replace ow70 := ow70.upL hs71 (DL.cons dj412 DL.nil)
            replace hm0 := (Mo.trL (ks := []) (hm0.mdn []) hs71 (MIL.cons (MI.app MI.z (nx413) (Nat.le_refl _)) MIL.nil)).nil
            replace hq11 := hq11.trL hs71 (MIL.cons (MI.app (MI.root (by simp)) (nx415) (Nat.le_refl _)) MIL.nil)
            have hz60 := hs71.size
            have hle_ow8 := ow8.le
            refine ⟨.inr hq11, LH.narrow (SH2 := fun Hq => Mo (Ms [k71]) H71 Hq) (fun Hq hq => hq11.trL hq (MIL.cons (MI.app (MI.root (by simp)) (nx422) (Nat.le_refl _)) MIL.nil)) ?_⟩
            have hq11 : Mo (Ms [k71]) H71 H71 := Mo.refl _ _
            have nx423 := Nx.refl k71 H71.size
            refine LH.take 10 (by kernel_rfl) rfl (by kernel_rfl) (by kernel_rfl) (by kernel_rfl) (fun Hq hq => Y.assign rfl rfl) (Wd.u rfl) rfl rfl hq11 ?_
            refine LH.done (by kernel_rfl) ?_
            refine hK32 _ _ ?_
            refine CW.seq (fun K35 hK35 hE35 => ?_)
            refine CW.region ?_
            refine LR.v (Y.move rfl rfl) (Wd.u rfl) rfl rfl ?_
            refine LR.v (Y.assign rfl rfl) (Wd.u rfl) rfl rfl ?_
            refine LR.nil ?_
            refine hK35 _ _ ?_
            refine CW.ret (hret .ret (.inr rfl) _ _ _ (res1 rfl rfl) ?_)
            exact ⟨_, k71, p, s, rfl, hE, by
                unfold mkL
                first | rw [if_pos (show 0 < p by omega)] | rw [if_neg (show ¬ 0 < p by omega)]
                first | rw [if_pos (show 0 < (mid tg p s).length by omega)] | rw [if_neg (show ¬ 0 < (mid tg p s).length by omega)]
                first | rw [if_pos (show 0 < s by omega)] | rw [if_neg (show ¬ 0 < s by omega)]
                simpa [cp] using ow8, nx421, hm0⟩
        ·
          refine LO.z rfl (Z.litw _ (([bs.length - s, s].map (fun n : Nat => (n : Int)))) rfl inf31 rfl rfl rfl (by decide) (by decide) fI_len fI_one (rfl)) (Wd.u rfl) rfl rfl (fun v70 H70 r70 => ?_)
          obtain ⟨ow70, hs70, ob70, hH70⟩ := r70
          have hzs70 : H70.size = H28.size + 1 := by rw [hH70]; simp
          have df424 := (DF.new (bf_hb.mono hm0.size) : DF _ (H28.size + 1))
          have df425 := (DF.new (bf_ht.mono hm0.size) : DF _ (H28.size + 1))
          have dj426 : Dj (H0.size + 1) (H28.size + 1) := Dj.new va2.lt
          have dj427 : Dj k8 (H28.size + 1) := Dj.new ow8.le
          have nx428 : Nx 0 H0.size (H28.size + 1) := Nx.new hm0.size
          have nx429 : Nx 0 H28.size (H28.size + 1) := Nx.new hq11.size
          replace hb := hb.nw hs70
          replace ht := ht.nw hs70
          replace va2 := va2.nw hs70
          replace ow8 := ow8.nw hs70
          replace hm0 := hm0.tr hs70
          replace hq11 := hq11.trN hs70
          have hz61 := hs70.size
          refine ⟨.inr hq11, LH.narrow (SH2 := fun Hq => Mo (Ms [k8]) H70 Hq) (fun Hq hq => hq11.trL hq (MIL.cons (MI.app (MI.root (by simp)) (nx369) (Nat.le_refl _)) MIL.nil)) ?_⟩
          have hq11 : Mo (Ms [k8]) H70 H70 := Mo.refl _ _
          have nx430 := Nx.refl k8 H70.size
          refine LH.one (i := 1) (by kernel_rfl) ?_
          refine LO.z rfl (Z.litw _ ([(1 : UInt8)]) rfl inf22 rfl rfl rfl (by decide) (by decide) fB_len fB_one (rfl)) (Wd.u rfl) rfl rfl (fun v63 H63 r63 => ?_)
          obtain ⟨ow63, hs63, ob63, hH63⟩ := r63
          have hzs63 : H63.size = H70.size + 1 := by rw [hH63]; simp
          have df431 := (DF.new (bf_hb.mono hm0.size) : DF _ (H70.size + 1))
          have df432 := (DF.new (bf_ht.mono hm0.size) : DF _ (H70.size + 1))
          have dj433 : Dj (H0.size + 1) (H70.size + 1) := Dj.new va2.lt
          have dj434 : Dj k8 (H70.size + 1) := Dj.new ow8.le
          have dj435 : Dj (H28.size + 1) (H70.size + 1) := Dj.new ow70.le
          have nx436 : Nx 0 H0.size (H70.size + 1) := Nx.new hm0.size
          have nx437 : Nx 0 H70.size (H70.size + 1) := Nx.new hq11.size
          replace hb := hb.nw hs63
          replace ht := ht.nw hs63
          replace va2 := va2.nw hs63
          replace ow8 := ow8.nw hs63
          replace ow70 := ow70.nw hs63
          replace hm0 := hm0.tr hs63
          replace hq11 := hq11.trN hs63
          have hz62 := hs63.size
          refine ⟨.inr hq11, LH.narrow (SH2 := fun Hq => Mo (Ms [k8]) H63 Hq) (fun Hq hq => hq11.trL hq (MIL.cons (MI.app (MI.root (by simp)) (nx430) (Nat.le_refl _)) MIL.nil)) ?_⟩
          have hq11 : Mo (Ms [k8]) H63 H63 := Mo.refl _ _
          have nx438 := Nx.refl k8 H63.size
          refine LH.one (i := 2) (by kernel_rfl) ?_
          refine LO.z rfl (Z.apnd ow8 ow63.rd rfl inf22 rfl rfl (by first | (simp [be32_len, cp]; done) | (simp [be32_len, cp]; omega)) (by first | (simp [be32_len, cp]; done) | (simp [be32_len, cp]; omega))) (Wd.u rfl) rfl rfl (fun v64 H64 r64 => ?_)
          obtain ⟨k64, ow64, hk64, hs64⟩ := r64
          replace hk64 : Nx k8 H63.size k64 := hk64
          replace hs64 := hs64.md
          have df439 := DF.app (df13) (bf_hb.mono hm0.size) hk64
          have df440 := DF.app (df14) (bf_ht.mono hm0.size) hk64
          have dj441 : Dj (H0.size + 1) k64 := Dj.app (dj15) va2.lt hk64
          have dj442 : Dj (H28.size + 1) k64 := Dj.app (dj427.symm) ow70.le hk64
          have dj443 : Dj (H70.size + 1) k64 := Dj.app (dj434.symm) ow63.le hk64
          have nx444 : Nx 0 H0.size k64 := Nx.tr (nx18) hk64 hm0.size
          have nx445 : Nx k8 H63.size k64 := Nx.tr (nx438) hk64 hq11.size
          replace hb := hb.upL hs64 (DFL.cons df13 DFL.nil)
          replace ht := ht.upL hs64 (DFL.cons df14 DFL.nil)
          replace va2 := va2.upL hs64 (DL.cons dj15 DL.nil)
          replace ow70 := ow70.upL hs64 (DL.cons dj427.symm DL.nil)
          replace ow63 := ow63.upL hs64 (DL.cons dj434.symm DL.nil)
          replace hm0 := (Mo.trL (ks := []) (hm0.mdn []) hs64 (MIL.cons (MI.app MI.z (nx18) (Nat.le_refl _)) MIL.nil)).nil
          replace hq11 := hq11.trL hs64 (MIL.cons (MI.app (MI.root (by simp)) (nx438) (Nat.le_refl _)) MIL.nil)
          have hz63 := hs64.size
          have hle_ow64 := ow64.le
          refine ⟨.inr hq11, LH.narrow (SH2 := fun Hq => Mo (Ms [k64]) H64 Hq) (fun Hq hq => hq11.trL hq (MIL.cons (MI.app (MI.root (by simp)) (nx445) (Nat.le_refl _)) MIL.nil)) ?_⟩
          have hq11 : Mo (Ms [k64]) H64 H64 := Mo.refl _ _
          have nx446 := Nx.refl k64 H64.size
          refine LH.one (i := 9) (by kernel_rfl) ?_
          -- call selvage/delta.number
          refine LO.call rfl rfl Try.call20 rfl (Wd.u rfl) rfl rfl (number_ct k64 _ _ _ [bs.length - s, s] w0 _ ow64 (ow70.rd.imp (fun b _ h => (dj442) b h)) (by simp) (by first | (simp [be32_len, cp]; done) | (simp [be32_len, cp]; omega))) (fun v71 H71 r71 => ?_)
          obtain ⟨v271, k71, rfl, ow8, hk71, hs71⟩ := r71
          have df447 := DF.app (df439) (bf_hb.mono hm0.size) hk71
          have df448 := DF.app (df440) (bf_ht.mono hm0.size) hk71
          have dj449 : Dj (H0.size + 1) k71 := Dj.app (dj441) va2.lt hk71
          have dj450 : Dj (H28.size + 1) k71 := Dj.app (dj442) ow70.le hk71
          have dj451 : Dj (H70.size + 1) k71 := Dj.app (dj443) ow63.le hk71
          have nx452 : Nx 0 H0.size k71 := Nx.tr (nx444) hk71 hm0.size
          have nx453 : Nx k64 H64.size k71 := Nx.tr (nx446) hk71 hq11.size
          replace hb := hb.upL hs71 (DFL.cons df439 DFL.nil)
          replace ht := ht.upL hs71 (DFL.cons df440 DFL.nil)
          replace va2 := va2.upL hs71 (DL.cons dj441 DL.nil)
          replace ow70 := ow70.upL hs71 (DL.cons dj442 DL.nil)
          replace ow63 := ow63.upL hs71 (DL.cons dj443 DL.nil)
          replace hm0 := (Mo.trL (ks := []) (hm0.mdn []) hs71 (MIL.cons (MI.app MI.z (nx444) (Nat.le_refl _)) MIL.nil)).nil
          replace hq11 := hq11.trL hs71 (MIL.cons (MI.app (MI.root (by simp)) (nx446) (Nat.le_refl _)) MIL.nil)
          have hz64 := hs71.size
          have hle_ow8 := ow8.le
          refine ⟨.inr hq11, LH.narrow (SH2 := fun Hq => Mo (Ms [k71]) H71 Hq) (fun Hq hq => hq11.trL hq (MIL.cons (MI.app (MI.root (by simp)) (nx453) (Nat.le_refl _)) MIL.nil)) ?_⟩
          have hq11 : Mo (Ms [k71]) H71 H71 := Mo.refl _ _
          have nx454 := Nx.refl k71 H71.size
          refine LH.take 10 (by kernel_rfl) rfl (by kernel_rfl) (by kernel_rfl) (by kernel_rfl) (fun Hq hq => Y.assign rfl rfl) (Wd.u rfl) rfl rfl hq11 ?_
          refine LH.done (by kernel_rfl) ?_
          refine hK32 _ _ ?_
          refine CW.seq (fun K36 hK36 hE36 => ?_)
          refine CW.region ?_
          refine LR.v (Y.move rfl rfl) (Wd.u rfl) rfl rfl ?_
          refine LR.v (Y.assign rfl rfl) (Wd.u rfl) rfl rfl ?_
          refine LR.nil ?_
          refine hK36 _ _ ?_
          refine CW.ret (hret .ret (.inr rfl) _ _ _ (res1 rfl rfl) ?_)
          exact ⟨_, k71, p, s, rfl, hE, by
              unfold mkL
              first | rw [if_pos (show 0 < p by omega)] | rw [if_neg (show ¬ 0 < p by omega)]
              first | rw [if_pos (show 0 < (mid tg p s).length by omega)] | rw [if_neg (show ¬ 0 < (mid tg p s).length by omega)]
              first | rw [if_pos (show 0 < s by omega)] | rw [if_neg (show ¬ 0 < s by omega)]
              simpa [cp] using ow8, nx452, hm0⟩
      ·
        refine CW.skip ?_
        refine hK32 _ _ ?_
        refine CW.seq (fun K37 hK37 hE37 => ?_)
        refine CW.region ?_
        refine LR.v (Y.move rfl rfl) (Wd.u rfl) rfl rfl ?_
        refine LR.v (Y.assign rfl rfl) (Wd.u rfl) rfl rfl ?_
        refine LR.nil ?_
        refine hK37 _ _ ?_
        refine CW.ret (hret .ret (.inr rfl) _ _ _ (res1 rfl rfl) ?_)
        exact ⟨_, k8, p, s, rfl, hE, by
            unfold mkL
            first | rw [if_pos (show 0 < p by omega)] | rw [if_neg (show ¬ 0 < p by omega)]
            first | rw [if_pos (show 0 < (mid tg p s).length by omega)] | rw [if_neg (show ¬ 0 < (mid tg p s).length by omega)]
            first | rw [if_pos (show 0 < s by omega)] | rw [if_neg (show ¬ 0 < s by omega)]
            simpa [cp] using ow8, nx18, hm0⟩

end Go.Proofs.Ytjkjdpainenofaa.DelB
