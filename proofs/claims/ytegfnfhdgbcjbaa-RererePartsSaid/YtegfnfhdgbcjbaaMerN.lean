/-
  A text with marks is taken to pieces by the document.
-/
import Derived.Test.YtegfnfhdgbcjbaaMerM
namespace Go.Proofs.Ytegfnfhdgbcjbaa.MerN
open Go.Proofs.Ytegfnfhdgbcjbaa.E Go.RowKit Go.Proofs.Ytegfnfhdgbcjbaa.LinM Go.Proofs.Ytegfnfhdgbcjbaa.LinA Go.Proofs.Ytegfnfhdgbcjbaa.LinC Go.Proofs.Ytegfnfhdgbcjbaa.LinF Go.Proofs.Ytegfnfhdgbcjbaa.LinL Go.Proofs.Ytegfnfhdgbcjbaa.LinN Go.Proofs.Ytegfnfhdgbcjbaa.MerA Go.Proofs.Ytegfnfhdgbcjbaa.MerB Go.Proofs.Ytegfnfhdgbcjbaa.MerC Go.Proofs.Ytegfnfhdgbcjbaa.MerD Go.Proofs.Ytegfnfhdgbcjbaa.MerE Go.Proofs.Ytegfnfhdgbcjbaa.MerF Go.Proofs.Ytegfnfhdgbcjbaa.MerG Go.Proofs.Ytegfnfhdgbcjbaa.MerH Go.Proofs.Ytegfnfhdgbcjbaa.MerI Go.Proofs.Ytegfnfhdgbcjbaa.MerL Go.Proofs.Ytegfnfhdgbcjbaa.MerM
set_option maxRecDepth 20000
set_option linter.unusedVariables false
set_option linter.unusedSimpArgs false
set_option linter.unusedSectionVars false
set_option maxRecDepth 100000 in
theorem inf32 : Inf Try.prog 32 9 1 16 := ⟨Try.underlying32, _, _, rfl, rfl, rfl, rfl, rfl⟩
set_option maxRecDepth 100000 in
theorem inf50 : Inf Try.prog 50 54 4 80 := ⟨Try.underlying50, _, _, rfl, rfl, rfl, rfl, rfl⟩

theorem snocIf {G G2 : Nat → Prop} {H : Heap} {l l2 : List Ck} {x : Ck} {c : Prop} [Decidable c] (e : l2 = if c then l else l ++ [x]) (h : ∀ y ∈ l, CkR G H y) (hg : ∀ b, G b → G2 b) (hx : CkR G2 H x) : ∀ y ∈ l2, CkR G2 H y := by
  subst e
  split
  · exact fun y hy => (h y hy).imp (fun b _ e => hg b e)
  · exact snocR h hg hx
theorem plain_if {l : List Ck} {S : LL} {s1 s2 s3 : SV} : (if S.length + S.length + S.length = 0 then l else l ++ [⟨0, S, S, S, s1, s2, s3⟩]).map Ck.c = l.map Ck.c ++ plainC S := by
  by_cases h : S.length = 0
  · rw [if_pos (by omega), plain_none h, List.append_nil]
  · rw [if_neg (by omega), plain_some h]; simp

theorem plain_ct (v1 : Value) (b : LL) (w0 : World) (H0 : Heap)
    (hb : RdT H0 fS 1 v1 b) (hbl : b.length ≤ 1048576) :
    Ct Try.prog w0 47 #[v1] H0 (fun r H2 => ∃ s1 : SV, ∃ s2 : SV, ∃ s3 : SV, ∃ k1 : Nat, ∃ k2 : Nat, ∃ k3 : Nat, r = .agg #[.int .i64 0, s1.v, s2.v, s3.v] ∧ (Ow k1 9 H2 fS 1 s1.v b) ∧ (Ow k2 9 H2 fS 1 s2.v b) ∧ (Ow k3 9 H2 fS 1 s3.v b) ∧ (Nx 0 H0.size k1) ∧ (Nx 0 H0.size k2) ∧ (Nx 0 H0.size k3) ∧ (Dj k1 k2) ∧ (Dj k1 k3) ∧ (Dj k2 k3) ∧ Nw H0 H2) := by
  refine Ct.enter (args := [v1]) Try.func47 rfl rfl rfl ?_
  intro Q0 hret
  have hm0 : Nw H0 H0 := Mo.refl _ _
  replace hb := hb.bnd
  have bf_hb := Rd.bf hb
  refine CW.seq (fun K1 hK1 hE1 => ?_)
  refine CW.region ?_
  refine LR.z (Z.allocv rfl Try.zeroValue54) (Wd.u rfl) rfl rfl (fun v2 H2 r2 => ?_)
  obtain ⟨rfl, hz, hs2, ob2, hH2⟩ := r2
  have hzs2 : H2.size = H0.size + 1 := by rw [hH2]; simp
  have df1 := (DF.new (bf_hb.mono hm0.size) : DF _ (H0.size + 1))
  have nx2 : Nx 0 H0.size (H0.size + 1) := Nx.new hm0.size
  replace hb := hb.nw hs2
  replace hm0 := hm0.tr hs2
  have hz1 := hs2.size
  replace hz : Var 54 H2 H0.size ([.int .i64 0, .slice none 0 0, .slice none 0 0, .slice none 0 0]) := hz
  refine LR.nil ?_
  refine hK1 _ _ ?_
  refine CW.seq (fun K2 hK2 hE2 => ?_)
  refine CW.region ?_
  refine LR.v (Y.move rfl rfl) (Wd.u rfl) rfl rfl ?_
  refine LR.v (Y.move rfl rfl) (Wd.u rfl) rfl rfl ?_
  refine LR.v (Y.move rfl rfl) (Wd.u rfl) rfl rfl ?_
  -- call selvage/selvageref14.gap
  refine LR.call rfl Try.call51 rfl (Wd.u rfl) rfl rfl (gap_ct _ _ _ b b b w0 _ hb.any hb.any hb.any hbl hbl hbl) (fun v6 H6 r6 => ?_)
  obtain ⟨s1, s2, s3, k1, k2, k3, rfl, ob, oo, ot, hk16, hk26, hk36, d126, d136, d236, hs6⟩ := r6
  have df3 := DF.app (DF.z) (bf_hb.mono hm0.size) hk16
  have dj4 : Dj (H0.size + 1) k1 := Dj.app (Dj.z) hz.lt hk16
  have nx5 : Nx 0 H0.size k1 := Nx.tr (Nx.refl 0 _) hk16 hm0.size
  have df6 := DF.app (DF.z) (bf_hb.mono hm0.size) hk26
  have dj7 : Dj (H0.size + 1) k2 := Dj.app (Dj.z) hz.lt hk26
  have nx8 : Nx 0 H0.size k2 := Nx.tr (Nx.refl 0 _) hk26 hm0.size
  have df9 := DF.app (DF.z) (bf_hb.mono hm0.size) hk36
  have dj10 : Dj (H0.size + 1) k3 := Dj.app (Dj.z) hz.lt hk36
  have nx11 : Nx 0 H0.size k3 := Nx.tr (Nx.refl 0 _) hk36 hm0.size
  replace hb := hb.nw hs6
  replace hz := hz.nw hs6
  replace hm0 := hm0.tr hs6
  have hz2 := hs6.size
  have hle_ob := ob.le
  have hle_oo := oo.le
  have hle_ot := ot.le
  refine LR.s (S.var hz (_) ([.int .i64 0, s1.v, s2.v, s3.v]) rfl rfl rfl rfl (fK_one ⟨_, b, b, b, s1, s2, s3⟩) Try.sizeOf54 (rfl) (Nat.le_of_ble_eq_true rfl) (by rw [kd0 rfl rfl]; rfl)) (Wd.u rfl) rfl (fun H1_4 r1_4 => ?_)
  obtain ⟨hz, hs1_4⟩ := r1_4
  replace hs1_4 := hs1_4.md1
  replace hb := hb.upL hs1_4 (DFL.cons df1 DFL.nil)
  replace ob := ob.upL hs1_4 (DL.cons dj4.symm DL.nil)
  replace oo := oo.upL hs1_4 (DL.cons dj7.symm DL.nil)
  replace ot := ot.upL hs1_4 (DL.cons dj10.symm DL.nil)
  replace hm0 := (Mo.trL (ks := []) (hm0.mdn []) hs1_4 (MIL.cons (MI.app MI.z (nx2) (Nat.le_refl _)) MIL.nil)).nil
  have hz3 := hs1_4.size
  refine LR.nil ?_
  refine hK2 _ _ ?_
  refine CW.ret (hret .ret (.inr rfl) _ _ _ (resC rfl rfl hz.pt Try.isAgg54 Try.sizeOf54 (by first | rfl | simp)) ?_)
  exact ⟨s1, s2, s3, k1, k2, k3, rfl, ob, oo, ot, nx5, nx8, nx11, d126, d136, d236, hm0⟩

set_option maxHeartbeats 4000000 in
theorem radd_p (v : Value) (l : List Ck) (kd : Int) (sb so st : SV) (k kb ko kt : Nat) (b o t : LL) (w0 : World) (H0 : Heap)
    (ow : Ow k 54 H0 fK 4 v l) (ob : Ow kb 9 H0 fS 1 sb.v b) (oo : Ow ko 9 H0 fS 1 so.v o) (ot : Ow kt 9 H0 fS 1 st.v t) (e1 : Dj k kb) (e2 : Dj k ko) (e3 : Dj k kt) (hj : l.length = 0 ∨ (la l).k ≠ 0) (hll : l.length ≤ 4194304) (hbl : b.length ≤ 1048576 ∧ o.length ≤ 1048576 ∧ t.length ≤ 1048576) :
    Ct Try.prog w0 46 #[v, .agg #[.int .i64 kd, sb.v, so.v, st.v]] H0 (fun r H2 => ∃ v2 : Value, ∃ k2 : Nat, ∃ l2 : List Ck, r = v2 ∧ (Ow k2 54 H2 fK 4 v2 l2) ∧ (Nx k H0.size k2) ∧ (l2 = if b.length + o.length + t.length = 0 then l else l ++ [⟨kd, b, o, t, sb, so, st⟩]) ∧ Mo (Ms [k]) H0 H2) := by
  refine Ct.enter (args := [v, .agg #[.int .i64 kd, sb.v, so.v, st.v]]) Try.func46 rfl rfl rfl ?_
  intro Q0 hret
  have hm0 : Mo (Ms [k]) H0 H0 := Mo.refl _ _
  have nx_hm0_ow := Nx.refl k H0.size
  have hle_ow := ow.le
  have nx_hm0_ob := Nx.refl kb H0.size
  have hle_ob := ob.le
  have nx_hm0_oo := Nx.refl ko H0.size
  have hle_oo := oo.le
  have nx_hm0_ot := Nx.refl kt H0.size
  have hle_ot := ot.le
  refine CW.seq (fun K1 hK1 hE1 => ?_)
  refine CW.region ?_
  refine LR.z (Z.boxv rfl rfl) (Wd.u rfl) rfl rfl (fun v3 H3 r3 => ?_)
  obtain ⟨rfl, hc, hs3, ob3, hH3⟩ := r3
  have hzs3 : H3.size = H0.size + 1 := by rw [hH3]; simp
  have dj1 : Dj k (H0.size + 1) := Dj.new ow.le
  have dj2 : Dj kb (H0.size + 1) := Dj.new ob.le
  have dj3 : Dj ko (H0.size + 1) := Dj.new oo.le
  have dj4 : Dj kt (H0.size + 1) := Dj.new ot.le
  have nx5 : Nx 0 H0.size (H0.size + 1) := Nx.new hm0.size
  replace ow := ow.nw hs3
  replace ob := ob.nw hs3
  replace oo := oo.nw hs3
  replace ot := ot.nw hs3
  replace hm0 := hm0.trN hs3
  have hz1 := hs3.size
  replace hc : Var 54 H3 H0.size ([.int .i64 kd, sb.v, so.v, st.v]) := hc
  refine LR.v (Y.assign rfl rfl) (Wd.u rfl) rfl rfl ?_
  refine LR.nil ?_
  refine hK1 _ _ ?_
  refine CW.seq (fun K2 hK2 hE2 => ?_)
  refine CW.region ?_
  refine LR.v (Y.move rfl rfl) (Wd.u rfl) rfl rfl ?_
  refine LR.v (Y.len ow.rd rfl Try.runUnderlying50 rfl) (Wd.u rfl) rfl rfl ?_
  refine LR.v (Y.assign rfl rfl) (Wd.u rfl) rfl rfl ?_
  refine LR.nil ?_
  refine hK2 _ _ ?_
  refine CW.seq (fun K3 hK3 hE3 => ?_)
  refine CW.seq (fun K4 hK4 hE4 => ?_)
  refine CW.region ?_
  refine LR.v (Y.fieldAddr hc.pt rfl Try.runUnderlying54 rfl rfl Try.sizeOf32 (by decide) rfl) (Wd.u rfl) rfl rfl ?_
  refine LR.v (Y.load1 (hc.pt.drop 1) rfl Try.isAgg32 rfl) (Wd.u rfl) rfl rfl ?_
  refine LR.v (Y.len ob.rd rfl Try.runUnderlying32 rfl) (Wd.u rfl) rfl rfl ?_
  refine LR.v (Y.fieldAddr hc.pt rfl Try.runUnderlying54 rfl rfl Try.sizeOf32 (by decide) rfl) (Wd.u rfl) rfl rfl ?_
  refine LR.v (Y.load1 (hc.pt.drop 2) rfl Try.isAgg32 rfl) (Wd.u rfl) rfl rfl ?_
  refine LR.v (Y.len oo.rd rfl Try.runUnderlying32 rfl) (Wd.u rfl) rfl rfl ?_
  refine LR.v (Y.addi rfl rfl rfl (by omega)) (Wd.u rfl) rfl rfl ?_
  refine LR.v (Y.fieldAddr hc.pt rfl Try.runUnderlying54 rfl rfl Try.sizeOf32 (by decide) rfl) (Wd.u rfl) rfl rfl ?_
  refine LR.v (Y.load1 (hc.pt.drop 3) rfl Try.isAgg32 rfl) (Wd.u rfl) rfl rfl ?_
  refine LR.v (Y.len ot.rd rfl Try.runUnderlying32 rfl) (Wd.u rfl) rfl rfl ?_
  refine LR.v (Y.addi rfl rfl rfl (by omega)) (Wd.u rfl) rfl rfl ?_
  refine LR.v (Y.eql rfl rfl rfl) (Wd.u rfl) rfl rfl ?_
  refine LR.nil ?_
  refine hK4 _ _ ?_
  refine CW.condp rfl (fun c19 => ?_) (fun c19 => ?_)
  ·
    refine CW.seq (fun K5 hK5 hE5 => ?_)
    refine CW.region ?_
    refine LR.v (Y.move rfl rfl) (Wd.u rfl) rfl rfl ?_
    refine LR.v (Y.assign rfl rfl) (Wd.u rfl) rfl rfl ?_
    refine LR.nil ?_
    refine hK5 _ _ ?_
    refine CW.ret (hE3 .ret nofun _ _ (hret .ret (.inr rfl) _ _ _ (res1 rfl rfl) ?_))
    exact ⟨v, k, _, rfl, ow, Nx.refl _ _, by rw [if_pos (by omega)], hm0⟩
  ·
    refine CW.skip ?_
    refine hK3 _ _ ?_
    refine CW.seq (fun K6 hK6 hE6 => ?_)
    refine CW.seq (fun K7 hK7 hE7 => ?_)
    refine CW.region ?_
    refine LR.v (Y.fieldAddr hc.pt rfl Try.runUnderlying54 rfl rfl Try.sizeOf3 (by decide) rfl) (Wd.u rfl) rfl rfl ?_
    refine LR.v (Y.load1 hc.pt rfl Try.isAgg3 rfl) (Wd.u rfl) rfl rfl ?_
    refine LR.v (Y.eql rfl rfl rfl) (Wd.u rfl) rfl rfl ?_
    refine LR.v (Y.move rfl rfl) (Wd.u rfl) rfl rfl ?_
    refine LR.splitp (d := 24) rfl (fun g24 => ?_) (fun g24 => ?_)
    ·
      refine LR.v (Y.move rfl rfl) (Wd.g rfl rfl rfl) rfl rfl ?_
      refine LR.v (Y.gtr rfl rfl rfl) (Wd.g rfl rfl rfl) rfl rfl ?_
      refine LR.v (Y.pick_t rfl rfl rfl) (Wd.u rfl) rfl rfl ?_
      refine LR.v (Y.move rfl rfl) (Wd.u rfl) rfl rfl ?_
      refine LR.splitp (d := 28) rfl (fun g28 => ?_) (fun g28 => ?_)
      ·
        refine LR.v (Y.move rfl rfl) (Wd.g rfl rfl rfl) rfl rfl ?_
        refine LR.v (Y.move rfl rfl) (Wd.g rfl rfl rfl) rfl rfl ?_
        refine LR.v (Y.subi rfl rfl rfl (by omega)) (Wd.g rfl rfl rfl) rfl rfl ?_
        refine LR.v (Y.owAddr ow (l.length - 1) rfl Try.runUnderlying50 Try.sizeOf54 rfl rfl (by first | rfl | omega) (by first | omega | (simp; omega) | (simp; done))) (Wd.g rfl rfl rfl) rfl rfl ?_
        refine LR.v (Y.fieldAddr (ow.pt (j := l.length - 1) (by first | omega | (simp; omega) | (simp; done))) rfl Try.runUnderlying54 rfl rfl Try.sizeOf3 (by decide) rfl) (Wd.g rfl rfl rfl) rfl rfl ?_
        refine LR.v (Y.cast (v2 := .int .i64 (la l).k) (Y.load1 ((ow.pt (j := l.length - 1) (by first | omega | (simp; omega) | (simp; done))).drop 0) rfl Try.isAgg3 rfl) (by rw [← la_at l (by omega)])) (Wd.g rfl rfl rfl) rfl rfl ?_
        refine LR.v (Y.eql rfl rfl rfl) (Wd.g rfl rfl rfl) rfl rfl ?_
        refine LR.v (Y.pick_t rfl rfl rfl) (Wd.u rfl) rfl rfl ?_
        refine LR.nil ?_
        refine hK7 _ _ ?_
        refine CW.condp rfl (fun c36 => ?_) (fun c36 => ?_)
        ·
          exfalso; omega
        ·
          refine CW.skip ?_
          refine hK6 _ _ ?_
          refine CW.seq (fun K8 hK8 hE8 => ?_)
          refine CW.region ?_
          refine LR.v (Y.move rfl rfl) (Wd.u rfl) rfl rfl ?_
          refine LR.v (Y.loadN hc.pt rfl Try.isAgg54 Try.sizeOf54 (rfl) rfl) (Wd.u rfl) rfl rfl ?_
          refine LR.z (Z.litw _ ([(⟨kd, b, o, t, sb, so, st⟩ : Ck)]) rfl inf50 rfl rfl rfl (by decide) (by decide) fK_len fK_one (rfl)) (Wd.u rfl) rfl rfl (fun v82 H82 r82 => ?_)
          obtain ⟨nw82, hs82, ob82, hH82⟩ := r82
          have hzs82 : H82.size = H3.size + 1 := by rw [hH82]; simp
          have dj6 : Dj k (H3.size + 1) := Dj.new ow.le
          have dj7 : Dj kb (H3.size + 1) := Dj.new ob.le
          have dj8 : Dj ko (H3.size + 1) := Dj.new oo.le
          have dj9 : Dj kt (H3.size + 1) := Dj.new ot.le
          have dj10 : Dj (H0.size + 1) (H3.size + 1) := Dj.new hc.lt
          have nx11 : Nx 0 H0.size (H3.size + 1) := Nx.new hm0.size
          replace ow := ow.nw hs82
          replace ob := ob.nw hs82
          replace oo := oo.nw hs82
          replace ot := ot.nw hs82
          replace hc := hc.nw hs82
          replace hm0 := hm0.trN hs82
          have hz2 := hs82.size
          refine LR.z (Z.apnd ow nw82.rd rfl inf50 rfl rfl (by simp; omega) (by simp; omega)) (Wd.u rfl) rfl rfl (fun v83 H83 r83 => ?_)
          obtain ⟨k83, ow, hk83, hs83⟩ := r83
          replace hk83 : Nx k H82.size k83 := hk83
          replace hs83 := hs83.md
          have dj12 : Dj kb k83 := Dj.app (e1.symm) ob.le hk83
          have dj13 : Dj ko k83 := Dj.app (e2.symm) oo.le hk83
          have dj14 : Dj kt k83 := Dj.app (e3.symm) ot.le hk83
          have dj15 : Dj (H0.size + 1) k83 := Dj.app (dj1.symm) hc.lt hk83
          have dj16 : Dj (H3.size + 1) k83 := Dj.app (dj6.symm) nw82.le hk83
          have nx17 : Nx k H0.size k83 := Nx.tr (nx_hm0_ow) hk83 hm0.size
          replace ob := ob.upL hs83 (DL.cons e1.symm DL.nil)
          replace oo := oo.upL hs83 (DL.cons e2.symm DL.nil)
          replace ot := ot.upL hs83 (DL.cons e3.symm DL.nil)
          replace hc := hc.upL hs83 (DL.cons dj1.symm DL.nil)
          replace nw82 := nw82.upL hs83 (DL.cons dj6.symm DL.nil)
          replace hm0 := hm0.trL hs83 (MIL.cons (MI.app (MI.root (by simp)) (nx_hm0_ow) (Nat.le_refl _)) MIL.nil)
          have hz3 := hs83.size
          have hle_ow := ow.le
          refine LR.v (Y.assign rfl rfl) (Wd.u rfl) rfl rfl ?_
          refine LR.nil ?_
          refine hK8 _ _ ?_
          refine CW.ret (hret .ret (.inr rfl) _ _ _ (res1 rfl rfl) ?_)
          exact ⟨v83, k83, _, rfl, ow, nx17, by rw [if_neg (by omega)], hm0⟩
      ·
        refine LR.gs rfl rfl rfl rfl rfl rfl ?_
        refine LR.gs rfl rfl rfl rfl rfl rfl ?_
        refine LR.gs rfl rfl rfl rfl rfl rfl ?_
        refine LR.gs rfl rfl rfl rfl rfl rfl ?_
        refine LR.gs rfl rfl rfl rfl rfl rfl ?_
        refine LR.gs rfl rfl rfl rfl rfl rfl ?_
        refine LR.gs rfl rfl rfl rfl rfl rfl ?_
        refine LR.v (Y.pick_f rfl rfl rfl) (Wd.u rfl) rfl rfl ?_
        refine LR.nil ?_
        refine hK7 _ _ ?_
        refine CW.cond_f rfl ?_
        refine CW.skip ?_
        refine hK6 _ _ ?_
        refine CW.seq (fun K9 hK9 hE9 => ?_)
        refine CW.region ?_
        refine LR.v (Y.move rfl rfl) (Wd.u rfl) rfl rfl ?_
        refine LR.v (Y.loadN hc.pt rfl Try.isAgg54 Try.sizeOf54 (rfl) rfl) (Wd.u rfl) rfl rfl ?_
        refine LR.z (Z.litw _ ([(⟨kd, b, o, t, sb, so, st⟩ : Ck)]) rfl inf50 rfl rfl rfl (by decide) (by decide) fK_len fK_one (rfl)) (Wd.u rfl) rfl rfl (fun v82 H82 r82 => ?_)
        obtain ⟨nw82, hs82, ob82, hH82⟩ := r82
        have hzs82 : H82.size = H3.size + 1 := by rw [hH82]; simp
        have dj18 : Dj k (H3.size + 1) := Dj.new ow.le
        have dj19 : Dj kb (H3.size + 1) := Dj.new ob.le
        have dj20 : Dj ko (H3.size + 1) := Dj.new oo.le
        have dj21 : Dj kt (H3.size + 1) := Dj.new ot.le
        have dj22 : Dj (H0.size + 1) (H3.size + 1) := Dj.new hc.lt
        have nx23 : Nx 0 H0.size (H3.size + 1) := Nx.new hm0.size
        replace ow := ow.nw hs82
        replace ob := ob.nw hs82
        replace oo := oo.nw hs82
        replace ot := ot.nw hs82
        replace hc := hc.nw hs82
        replace hm0 := hm0.trN hs82
        have hz4 := hs82.size
        refine LR.z (Z.apnd ow nw82.rd rfl inf50 rfl rfl (by simp; omega) (by simp; omega)) (Wd.u rfl) rfl rfl (fun v83 H83 r83 => ?_)
        obtain ⟨k83, ow, hk83, hs83⟩ := r83
        replace hk83 : Nx k H82.size k83 := hk83
        replace hs83 := hs83.md
        have dj24 : Dj kb k83 := Dj.app (e1.symm) ob.le hk83
        have dj25 : Dj ko k83 := Dj.app (e2.symm) oo.le hk83
        have dj26 : Dj kt k83 := Dj.app (e3.symm) ot.le hk83
        have dj27 : Dj (H0.size + 1) k83 := Dj.app (dj1.symm) hc.lt hk83
        have dj28 : Dj (H3.size + 1) k83 := Dj.app (dj18.symm) nw82.le hk83
        have nx29 : Nx k H0.size k83 := Nx.tr (nx_hm0_ow) hk83 hm0.size
        replace ob := ob.upL hs83 (DL.cons e1.symm DL.nil)
        replace oo := oo.upL hs83 (DL.cons e2.symm DL.nil)
        replace ot := ot.upL hs83 (DL.cons e3.symm DL.nil)
        replace hc := hc.upL hs83 (DL.cons dj1.symm DL.nil)
        replace nw82 := nw82.upL hs83 (DL.cons dj18.symm DL.nil)
        replace hm0 := hm0.trL hs83 (MIL.cons (MI.app (MI.root (by simp)) (nx_hm0_ow) (Nat.le_refl _)) MIL.nil)
        have hz5 := hs83.size
        have hle_ow := ow.le
        refine LR.v (Y.assign rfl rfl) (Wd.u rfl) rfl rfl ?_
        refine LR.nil ?_
        refine hK9 _ _ ?_
        refine CW.ret (hret .ret (.inr rfl) _ _ _ (res1 rfl rfl) ?_)
        exact ⟨v83, k83, _, rfl, ow, nx29, by rw [if_neg (by omega)], hm0⟩
    ·
      refine LR.gs rfl rfl rfl rfl rfl rfl ?_
      refine LR.gs rfl rfl rfl rfl rfl rfl ?_
      refine LR.v (Y.pick_f rfl rfl rfl) (Wd.u rfl) rfl rfl ?_
      refine LR.v (Y.move rfl rfl) (Wd.u rfl) rfl rfl ?_
      refine LR.gs rfl rfl rfl rfl rfl rfl ?_
      refine LR.gs rfl rfl rfl rfl rfl rfl ?_
      refine LR.gs rfl rfl rfl rfl rfl rfl ?_
      refine LR.gs rfl rfl rfl rfl rfl rfl ?_
      refine LR.gs rfl rfl rfl rfl rfl rfl ?_
      refine LR.gs rfl rfl rfl rfl rfl rfl ?_
      refine LR.gs rfl rfl rfl rfl rfl rfl ?_
      refine LR.v (Y.pick_f rfl rfl rfl) (Wd.u rfl) rfl rfl ?_
      refine LR.nil ?_
      refine hK7 _ _ ?_
      refine CW.cond_f rfl ?_
      refine CW.skip ?_
      refine hK6 _ _ ?_
      refine CW.seq (fun K10 hK10 hE10 => ?_)
      refine CW.region ?_
      refine LR.v (Y.move rfl rfl) (Wd.u rfl) rfl rfl ?_
      refine LR.v (Y.loadN hc.pt rfl Try.isAgg54 Try.sizeOf54 (rfl) rfl) (Wd.u rfl) rfl rfl ?_
      refine LR.z (Z.litw _ ([(⟨kd, b, o, t, sb, so, st⟩ : Ck)]) rfl inf50 rfl rfl rfl (by decide) (by decide) fK_len fK_one (rfl)) (Wd.u rfl) rfl rfl (fun v82 H82 r82 => ?_)
      obtain ⟨nw82, hs82, ob82, hH82⟩ := r82
      have hzs82 : H82.size = H3.size + 1 := by rw [hH82]; simp
      have dj30 : Dj k (H3.size + 1) := Dj.new ow.le
      have dj31 : Dj kb (H3.size + 1) := Dj.new ob.le
      have dj32 : Dj ko (H3.size + 1) := Dj.new oo.le
      have dj33 : Dj kt (H3.size + 1) := Dj.new ot.le
      have dj34 : Dj (H0.size + 1) (H3.size + 1) := Dj.new hc.lt
      have nx35 : Nx 0 H0.size (H3.size + 1) := Nx.new hm0.size
      replace ow := ow.nw hs82
      replace ob := ob.nw hs82
      replace oo := oo.nw hs82
      replace ot := ot.nw hs82
      replace hc := hc.nw hs82
      replace hm0 := hm0.trN hs82
      have hz6 := hs82.size
      refine LR.z (Z.apnd ow nw82.rd rfl inf50 rfl rfl (by simp; omega) (by simp; omega)) (Wd.u rfl) rfl rfl (fun v83 H83 r83 => ?_)
      obtain ⟨k83, ow, hk83, hs83⟩ := r83
      replace hk83 : Nx k H82.size k83 := hk83
      replace hs83 := hs83.md
      have dj36 : Dj kb k83 := Dj.app (e1.symm) ob.le hk83
      have dj37 : Dj ko k83 := Dj.app (e2.symm) oo.le hk83
      have dj38 : Dj kt k83 := Dj.app (e3.symm) ot.le hk83
      have dj39 : Dj (H0.size + 1) k83 := Dj.app (dj1.symm) hc.lt hk83
      have dj40 : Dj (H3.size + 1) k83 := Dj.app (dj30.symm) nw82.le hk83
      have nx41 : Nx k H0.size k83 := Nx.tr (nx_hm0_ow) hk83 hm0.size
      replace ob := ob.upL hs83 (DL.cons e1.symm DL.nil)
      replace oo := oo.upL hs83 (DL.cons e2.symm DL.nil)
      replace ot := ot.upL hs83 (DL.cons e3.symm DL.nil)
      replace hc := hc.upL hs83 (DL.cons dj1.symm DL.nil)
      replace nw82 := nw82.upL hs83 (DL.cons dj30.symm DL.nil)
      replace hm0 := hm0.trL hs83 (MIL.cons (MI.app (MI.root (by simp)) (nx_hm0_ow) (Nat.le_refl _)) MIL.nil)
      have hz7 := hs83.size
      have hle_ow := ow.le
      refine LR.v (Y.assign rfl rfl) (Wd.u rfl) rfl rfl ?_
      refine LR.nil ?_
      refine hK10 _ _ ?_
      refine CW.ret (hret .ret (.inr rfl) _ _ _ (res1 rfl rfl) ?_)
      exact ⟨v83, k83, _, rfl, ow, nx41, by rw [if_neg (by omega)], hm0⟩

set_option maxHeartbeats 8000000 in
theorem rparse_ct (v1 : Value) (b : List UInt8) (w0 : World) (H0 : Heap)
    (hb : RdT H0 fB 1 v1 b) (hbl : b.length ≤ 1048576) :
    Ct Try.prog w0 26 #[v1] H0 (fun r H2 => ∃ v : Value, ∃ l : List Ck, ∃ e : Int, r = .tuple #[v, .int .i64 e] ∧ ((l.map Ck.c, e) = parseL b) ∧ (Rd (fun b => H0.size ≤ b) H2 fK 4 v l) ∧ (∀ x ∈ l, CkR (fun b => H0.size ≤ b) H2 x) ∧ Nw H0 H2) := by
  refine Ct.enter (args := [v1]) Try.func26 rfl rfl rfl ?_
  intro Q0 hret
  have hm0 : Nw H0 H0 := Mo.refl _ _
  replace hb := hb.bnd
  have bf_hb := Rd.bf hb
  refine CW.seq (fun K1 hK1 hE1 => ?_)
  refine CW.region ?_
  refine LR.v (Y.assign rfl rfl) (Wd.u rfl) rfl rfl ?_
  refine LR.v (Y.assign rfl rfl) (Wd.u rfl) rfl rfl ?_
  refine LR.nil ?_
  refine hK1 _ _ ?_
  refine CW.seq (fun K2 hK2 hE2 => ?_)
  refine CW.region ?_
  refine LR.v (Y.move rfl rfl) (Wd.u rfl) rfl rfl ?_
  -- call selvage/selvageref12.Split
  refine LR.call rfl Try.call30 rfl (Wd.u rfl) rfl rfl (rsplit3 _ b w0 _ hb.any hbl) (fun v12 H12 r12 => ?_)
  obtain ⟨v12, kl, rfl, ol, hk12, hs12⟩ := r12
  have df1 := DF.app (DF.z) (bf_hb.mono hm0.size) hk12
  have nx2 : Nx 0 H0.size kl := Nx.tr (Nx.refl 0 _) hk12 hm0.size
  replace hb := hb.nw hs12
  replace hm0 := hm0.tr hs12
  have hz1 := hs12.size
  have hle_ol := ol.le
  have hsm := split_mem (b := b)
  have hsl := splitL_len b []
  simp only [List.length_nil] at hsl
  obtain ⟨ls, hls⟩ : ∃ l, splitL [] b = l := ⟨_, rfl⟩
  rw [hls] at ol hsm hsl
  have hll := ol.len
  refine LR.v (Y.assign rfl rfl) (Wd.u rfl) rfl rfl ?_
  refine LR.nil ?_
  refine hK2 _ _ ?_
  refine CW.seq (fun K3 hK3 hE3 => ?_)
  refine CW.region ?_
  refine LR.v (Y.assign rfl rfl) (Wd.u rfl) rfl rfl ?_
  refine LR.nil ?_
  refine hK3 _ _ ?_
  refine CW.seq (fun K4 hK4 hE4 => ?_)
  refine CW.region ?_
  refine LR.z (Z.allocv rfl Try.zeroValue71) (Wd.u rfl) rfl rfl (fun v6 H6 r6 => ?_)
  obtain ⟨rfl, hS, hs6, ob6, hH6⟩ := r6
  have hzs6 : H6.size = H12.size + 1 := by rw [hH6]; simp
  have df3 := (DF.new (bf_hb.mono hm0.size) : DF _ (H12.size + 1))
  have dj4 : Dj kl (H12.size + 1) := Dj.new ol.le
  have nx5 : Nx 0 H0.size (H12.size + 1) := Nx.new hm0.size
  replace hb := hb.nw hs6
  replace ol := ol.nw hs6
  replace hm0 := hm0.tr hs6
  have hz2 := hs6.size
  replace hS : Var 71 H6 H12.size ([(⟨none, 0, 0⟩ : SV).v, (⟨none, 0, 0⟩ : SV).v, (⟨none, 0, 0⟩ : SV).v, (⟨none, 0, 0⟩ : SV).v]) := hS
  refine LR.nil ?_
  refine hK4 _ _ ?_
  refine CW.seq (fun K5 hK5 hE5 => ?_)
  refine CW.region ?_
  refine LR.v (Y.assign rfl rfl) (Wd.u rfl) rfl rfl ?_
  refine LR.nil ?_
  refine hK5 _ _ ?_
  refine CW.seq (fun K6 hK6 hE6 => ?_)
  refine CW.seq (fun K7 hK7 hE7 => ?_)
  refine CW.region ?_
  refine LR.v (Y.assign rfl rfl) (Wd.u rfl) rfl rfl ?_
  refine LR.nil ?_
  refine hK7 _ _ ?_
  refine CW.block (fun K8 hK8 hX8 hE8 => ?_)
  refine CW.loop (fun (s_ : (Nat) × (SV) × (Nat) × (LL) × (SV) × (Nat) × (LL) × (SV) × (Nat) × (LL) × (SV) × (Nat) × (LL) × (Value) × (Nat) × (List Ck) × (Nat → Prop) × (Nat)) => match s_ with | (i, s0, k0, S0, s1, k1, S1, s2, k2, S2, s3, k3, S3, vo, ko, l, G, at_) => [(4, v12), (5, vo), (6, .pointer (some ⟨H12.size, 0, none⟩)), (7, .int .i64 ((at_ + 1) % 4 : Nat)), (8, .int .i64 i)])
    (fun (s_ : (Nat) × (SV) × (Nat) × (LL) × (SV) × (Nat) × (LL) × (SV) × (Nat) × (LL) × (SV) × (Nat) × (LL) × (Value) × (Nat) × (List Ck) × (Nat → Prop) × (Nat)) (H : Heap) => match s_ with | (i, s0, k0, S0, s1, k1, S1, s2, k2, S2, s3, k3, S3, vo, ko, l, G, at_) => (i ≤ ls.length) ∧ (Var 71 H H12.size [s3.v, s0.v, s1.v, s2.v]) ∧ (Ow k0 9 H fS 1 s0.v S0) ∧ (Ow k1 9 H fS 1 s1.v S1) ∧ (Ow k2 9 H fS 1 s2.v S2) ∧ (Ow k3 9 H fS 1 s3.v S3) ∧ (Ow ko 54 H fK 4 vo l) ∧ (∀ x ∈ l, CkR G H x) ∧ (BF G H.size) ∧ (DF G k0) ∧ (DF G k1) ∧ (DF G k2) ∧ (DF G k3) ∧ (DF G ko) ∧ (DF G (H12.size + 1)) ∧ (∀ b, G b → H0.size ≤ b) ∧ (prun (ls.take i) = some (l.map Ck.c, S0, S1, S2, (if at_ = 3 then S3 else []), at_)) ∧ (S0.length ≤ i ∧ S1.length ≤ i ∧ S2.length ≤ i ∧ S3.length ≤ i ∧ l.length ≤ 2 * i ∧ at_ ≤ 3) ∧ (at_ = 3 → (l.length = 0 ∨ (la l).k ≠ 0)) ∧ (Nx 0 H6.size k0) ∧ (Nx 0 H6.size k1) ∧ (Nx 0 H6.size k2) ∧ (Nx 0 H6.size k3) ∧ (Nx 0 H6.size ko) ∧ (Dj (H12.size + 1) k0) ∧ (Dj (H12.size + 1) k1) ∧ (Dj k0 k1) ∧ (Dj (H12.size + 1) k2) ∧ (Dj k0 k2) ∧ (Dj k1 k2) ∧ (Dj (H12.size + 1) k3) ∧ (Dj k0 k3) ∧ (Dj k1 k3) ∧ (Dj k2 k3) ∧ (Dj (H12.size + 1) ko) ∧ (Dj k0 ko) ∧ (Dj k1 ko) ∧ (Dj k2 ko) ∧ (Dj k3 ko) ∧ Mo (Ms [(H12.size + 1)]) H6 H)
    (fun (s_ : (Nat) × (SV) × (Nat) × (LL) × (SV) × (Nat) × (LL) × (SV) × (Nat) × (LL) × (SV) × (Nat) × (LL) × (Value) × (Nat) × (List Ck) × (Nat → Prop) × (Nat)) => match s_ with | (i, s0, k0, S0, s1, k1, S1, s2, k2, S2, s3, k3, S3, vo, ko, l, G, at_) => ls.length - i) (0, ⟨none, 0, 0⟩, 0, [], ⟨none, 0, 0⟩, 0, [], ⟨none, 0, 0⟩, 0, [], ⟨none, 0, 0⟩, 0, [], .slice none 0 0, 0, [], fun _ => False, 3) ⟨rfl, rfl, rfl, rfl, rfl, trivial⟩ ?_ ?_
  ·
    exact ⟨(by omega), hS, Ow.nil fS_len fS_one, Ow.nil fS_len fS_one, Ow.nil fS_len fS_one, Ow.nil fS_len fS_one, Ow.nil fK_len fK_one, (fun x h => by cases h), (fun b e => e.elim), (fun b e => e.elim), (fun b e => e.elim), (fun b e => e.elim), (fun b e => e.elim), (fun b e => e.elim), (fun b e => e.elim), (fun b e => e.elim), rfl, (by simp), (fun _ => .inl rfl), Nx.refl _ _, Nx.refl _ _, Nx.refl _ _, Nx.refl _ _, Nx.refl _ _, Dj.z, Dj.z, Dj.z, Dj.z, Dj.z, Dj.z, Dj.z, Dj.z, Dj.z, Dj.z, Dj.z, Dj.z, Dj.z, Dj.z, Dj.z, Mo.refl _ _⟩
  rintro ⟨i, s0, k0, S0, s1, k1, S1, s2, k2, S2, s3, k3, S3, vo, ko, l, G, at_⟩ HL1 hI1 K9 hN9 hE9
  obtain ⟨hi, hS, o0, o1, o2, o3, ow, hx, bf_hx, fg0, fg1, fg2, fg3, fgw, fgS, hGm, hp, hsz, hlk, nxl_o0, nxl_o1, nxl_o2, nxl_o3, nxl_ow, dj_hS_o0, dj_hS_o1, dj_o0_o1, dj_hS_o2, dj_o0_o2, dj_o1_o2, dj_hS_o3, dj_o0_o3, dj_o1_o3, dj_o2_o3, dj_hS_ow, dj_o0_ow, dj_o1_ow, dj_o2_ow, dj_o3_ow, hlm1⟩ := hI1
  have df6 := DF.app (DF.z) (bf_hb.mono hm0.size) nxl_o0
  have dj7 : Dj kl k0 := Dj.app (Dj.z) ol.le nxl_o0
  have nx8 : Nx 0 H0.size k0 := Nx.tr (Nx.refl 0 _) nxl_o0 hm0.size
  have df9 := DF.app (DF.z) (bf_hb.mono hm0.size) nxl_o1
  have dj10 : Dj kl k1 := Dj.app (Dj.z) ol.le nxl_o1
  have nx11 : Nx 0 H0.size k1 := Nx.tr (Nx.refl 0 _) nxl_o1 hm0.size
  have df12 := DF.app (DF.z) (bf_hb.mono hm0.size) nxl_o2
  have dj13 : Dj kl k2 := Dj.app (Dj.z) ol.le nxl_o2
  have nx14 : Nx 0 H0.size k2 := Nx.tr (Nx.refl 0 _) nxl_o2 hm0.size
  have df15 := DF.app (DF.z) (bf_hb.mono hm0.size) nxl_o3
  have dj16 : Dj kl k3 := Dj.app (Dj.z) ol.le nxl_o3
  have nx17 : Nx 0 H0.size k3 := Nx.tr (Nx.refl 0 _) nxl_o3 hm0.size
  have df18 := DF.app (DF.z) (bf_hb.mono hm0.size) nxl_ow
  have dj19 : Dj kl ko := Dj.app (Dj.z) ol.le nxl_ow
  have nx20 : Nx 0 H0.size ko := Nx.tr (Nx.refl 0 _) nxl_ow hm0.size
  replace hb := hb.upL hlm1 (DFL.cons df3 DFL.nil)
  replace ol := ol.upL hlm1 (DL.cons dj4 DL.nil)
  replace hm0 := (Mo.trL (ks := []) (hm0.mdn []) hlm1 (MIL.cons (MI.app MI.z (nx5) (Nat.le_refl _)) MIL.nil)).nil
  have hz3 := hlm1.size
  have hle_o0 := o0.le
  have hle_o1 := o1.le
  have hle_o2 := o2.le
  have hle_o3 := o3.le
  have hle_ow := ow.le
  have dj21 := dj_hS_o0
  have dj22 := dj_hS_o1
  have dj23 := dj_o0_o1
  have dj24 := dj_hS_o2
  have dj25 := dj_o0_o2
  have dj26 := dj_o1_o2
  have dj27 := dj_hS_o3
  have dj28 := dj_o0_o3
  have dj29 := dj_o1_o3
  have dj30 := dj_o2_o3
  have dj31 := dj_hS_ow
  have dj32 := dj_o0_ow
  have dj33 := dj_o1_ow
  have dj34 := dj_o2_ow
  have dj35 := dj_o3_ow
  have nx_hlm1_hS := Nx.refl (H12.size + 1) H6.size
  have nx36 := nxl_o0
  have nx37 := nxl_o1
  have nx38 := nxl_o2
  have nx39 := nxl_o3
  have nx40 := nxl_ow
  refine CW.seq (fun K10 hK10 hE10 => ?_)
  refine CW.seq (fun K11 hK11 hE11 => ?_)
  refine CW.region ?_
  refine LR.v (Y.move rfl rfl) (Wd.u rfl) rfl rfl ?_
  refine LR.v (Y.move rfl rfl) (Wd.u rfl) rfl rfl ?_
  refine LR.v (Y.len ol.rd rfl Try.runUnderlying32 rfl) (Wd.u rfl) rfl rfl ?_
  refine LR.v (Y.lss rfl rfl rfl) (Wd.u rfl) rfl rfl ?_
  refine LR.nil ?_
  refine hK11 _ _ ?_
  refine CW.condp rfl (fun c16 => ?_) (fun c16 => ?_)
  ·
    refine CW.skip ?_
    refine hK10 _ _ ?_
    refine CW.seq (fun K12 hK12 hE12 => ?_)
    refine CW.block (fun K13 hK13 hX13 hE13 => ?_)
    refine CW.seq (fun K14 hK14 hE14 => ?_)
    refine CW.region ?_
    refine LR.v (Y.move rfl rfl) (Wd.u rfl) rfl rfl ?_
    refine LR.v (Y.move rfl rfl) (Wd.u rfl) rfl rfl ?_
    obtain ⟨z0, z1, z2, z3, zl, hat⟩ := hsz
    refine LR.v (Y.owAddr ol (i) rfl Try.runUnderlying32 Try.sizeOf9 rfl rfl (by first | rfl | omega) (by first | omega | (simp; omega) | (simp; done))) (Wd.u rfl) rfl rfl ?_
    refine LR.v (Y.load1 (ol.pt (j := i) (by first | omega | (simp; omega) | (simp; done))) rfl Try.isAgg9 rfl) (Wd.u rfl) rfl rfl ?_
    -- call selvage/selvageref14.which
    refine LR.call rfl Try.call32 rfl (Wd.u rfl) rfl rfl (which_ct ls[i] w0 _ (by have := hsm ls[i] (List.getElem_mem (by omega)); omega)) (fun v24 H24 r24 => ?_)
    obtain ⟨w24, rfl, hw24, hs24⟩ := r24
    replace hb := hb.nw hs24
    replace ol := ol.nw hs24
    replace hS := hS.nw hs24
    replace o0 := o0.nw hs24
    replace o1 := o1.nw hs24
    replace o2 := o2.nw hs24
    replace o3 := o3.nw hs24
    replace ow := ow.nw hs24
    replace hx := fun x hx_ => (hx x hx_).nw hs24
    replace hm0 := hm0.tr hs24
    replace hlm1 := hlm1.trN hs24
    have hz4 := hs24.size
    have hmb := mark_bd ls[i]
    refine LR.v (Y.move rfl rfl) (Wd.u rfl) rfl rfl ?_
    refine LR.v (Y.extract rfl rfl rfl) (Wd.u rfl) rfl rfl ?_
    refine LR.v (Y.extract rfl rfl rfl) (Wd.u rfl) rfl rfl ?_
    refine LR.v (Y.assign rfl rfl) (Wd.u rfl) rfl rfl ?_
    refine LR.v (Y.assign rfl rfl) (Wd.u rfl) rfl rfl ?_
    refine LR.nil ?_
    refine hK14 _ _ ?_
    refine CW.seq (fun K15 hK15 hE15 => ?_)
    refine CW.seq (fun K16 hK16 hE16 => ?_)
    refine CW.region ?_
    refine LR.v (Y.move rfl rfl) (Wd.u rfl) rfl rfl ?_
    refine LR.v (Y.lss rfl rfl rfl) (Wd.u rfl) rfl rfl ?_
    refine LR.nil ?_
    refine hK16 _ _ ?_
    refine CW.condp rfl (fun c28 => ?_) (fun c28 => ?_)
    ·
      rcases (show at_ = 0 ∨ at_ = 1 ∨ at_ = 2 ∨ at_ = 3 by omega) with rfl | rfl | rfl | rfl
      ·
        refine CW.seq (fun K17 hK17 hE17 => ?_)
        refine CW.region_any (fun Hq => Mo (Ms [k0]) H24 Hq) [11] rfl ?_
        have hq10 : Mo (Ms [k0]) H24 H24 := Mo.refl _ _
        have nx41 := Nx.refl k0 H24.size
        refine LH.take 0 (by kernel_rfl) rfl (by kernel_rfl) (by kernel_rfl) (by kernel_rfl) (fun Hq hq => Y.cast (v2 := .int .i64 1) (Y.move rfl rfl) (rfl)) (Wd.u rfl) rfl rfl hq10 ?_
        refine LH.take 1 (by kernel_rfl) rfl (by kernel_rfl) (by kernel_rfl) (by kernel_rfl) (fun Hq hq => Y.cast (v2 := .int .i64 1) (Y.move rfl rfl) (rfl)) (Wd.u rfl) rfl rfl hq10 ?_
        refine LH.take 2 (by kernel_rfl) rfl (by kernel_rfl) (by kernel_rfl) (by kernel_rfl) (fun Hq hq => Y.arrAddr (hS.upL hq (DL.cons dj21 DL.nil)).pt (1) rfl Try.runUnderlying71 Try.sizeOf32 rfl rfl (by first | rfl | omega) (by first | omega | (simp; omega) | (simp; done))) (Wd.u rfl) rfl rfl hq10 ?_
        refine LH.take 3 (by kernel_rfl) rfl (by kernel_rfl) (by kernel_rfl) (by kernel_rfl) (fun Hq hq => Y.load1 ((hS.upL hq (DL.cons dj21 DL.nil)).pt.at (1) (rfl)) rfl Try.isAgg32 rfl) (Wd.u rfl) rfl rfl hq10 ?_
        refine LH.take 4 (by kernel_rfl) rfl (by kernel_rfl) (by kernel_rfl) (by kernel_rfl) (fun Hq hq => Y.move rfl rfl) (Wd.u rfl) rfl rfl hq10 ?_
        refine LH.take 5 (by kernel_rfl) rfl (by kernel_rfl) (by kernel_rfl) (by kernel_rfl) (fun Hq hq => Y.move rfl rfl) (Wd.u rfl) rfl rfl hq10 ?_
        refine LH.take 6 (by kernel_rfl) rfl (by kernel_rfl) (by kernel_rfl) (by kernel_rfl) (fun Hq hq => Y.owAddr (ol.upL hq (DL.cons dj7 DL.nil)) (i) rfl Try.runUnderlying32 Try.sizeOf9 rfl rfl (by first | rfl | omega) (by first | omega | (simp; omega) | (simp; done))) (Wd.u rfl) rfl rfl hq10 ?_
        refine LH.take 7 (by kernel_rfl) rfl (by kernel_rfl) (by kernel_rfl) (by kernel_rfl) (fun Hq hq => Y.load1 ((ol.upL hq (DL.cons dj7 DL.nil)).pt (j := i) (by first | omega | (simp; omega) | (simp; done))) rfl Try.isAgg9 rfl) (Wd.u rfl) rfl rfl hq10 ?_
        refine LH.one (i := 8) (by kernel_rfl) ?_
        refine LO.z rfl (Z.litw _ ([ls[i]]) rfl inf32 rfl rfl rfl (by decide) (by decide) fS_len fS_one (rfl)) (Wd.u rfl) rfl rfl (fun v37 H37 r37 => ?_)
        obtain ⟨ow37, hs37, ob37, hH37⟩ := r37
        have hzs37 : H37.size = H24.size + 1 := by rw [hH37]; simp
        have df42 := (DF.new (bf_hb.mono hm0.size) : DF _ (H24.size + 1))
        have dj43 : Dj kl (H24.size + 1) := Dj.new ol.le
        have dj44 : Dj (H12.size + 1) (H24.size + 1) := Dj.new hS.lt
        have dj45 : Dj k0 (H24.size + 1) := Dj.new o0.le
        have dj46 : Dj k1 (H24.size + 1) := Dj.new o1.le
        have dj47 : Dj k2 (H24.size + 1) := Dj.new o2.le
        have dj48 : Dj k3 (H24.size + 1) := Dj.new o3.le
        have dj49 : Dj ko (H24.size + 1) := Dj.new ow.le
        have df50 := (DF.new (bf_hx.mono (by omega)) : DF _ (H24.size + 1))
        have nx51 : Nx 0 H0.size (H24.size + 1) := Nx.new hm0.size
        have nx52 : Nx 0 H6.size (H24.size + 1) := Nx.new hlm1.size
        have nx53 : Nx 0 H24.size (H24.size + 1) := Nx.new hq10.size
        replace hb := hb.nw hs37
        replace ol := ol.nw hs37
        replace hS := hS.nw hs37
        replace o0 := o0.nw hs37
        replace o1 := o1.nw hs37
        replace o2 := o2.nw hs37
        replace o3 := o3.nw hs37
        replace ow := ow.nw hs37
        replace hx := fun x hx_ => (hx x hx_).nw hs37
        replace hm0 := hm0.tr hs37
        replace hlm1 := hlm1.trN hs37
        replace hq10 := hq10.trN hs37
        have hz5 := hs37.size
        refine ⟨.inr hq10, LH.narrow (SH2 := fun Hq => Mo (Ms [k0, (H24.size + 1)]) H37 Hq) (fun Hq hq => hq10.trL hq (MIL.cons (MI.app (MI.root (by simp)) (nx41) (Nat.le_refl _)) (MIL.cons (MI.app MI.z (nx53) (Nat.le_refl _)) MIL.nil))) ?_⟩
        have hq10 : Mo (Ms [k0, (H24.size + 1)]) H37 H37 := Mo.refl _ _
        have nx54 := Nx.refl k0 H37.size
        have nx55 := Nx.refl (H24.size + 1) H37.size
        refine LH.one (i := 9) (by kernel_rfl) ?_
        refine LO.z rfl (Z.apnd o0 ow37.rd rfl inf32 rfl rfl (by simp; omega) (by simp; omega)) (Wd.u rfl) rfl rfl (fun v38 H38 r38 => ?_)
        obtain ⟨k38, o0, hk38, hs38⟩ := r38
        replace hk38 : Nx k0 H37.size k38 := hk38
        replace hs38 := hs38.md
        have df56 := DF.app (df6) (bf_hb.mono hm0.size) hk38
        have dj57 : Dj kl k38 := Dj.app (dj7) ol.le hk38
        have dj58 : Dj (H12.size + 1) k38 := Dj.app (dj21) hS.lt hk38
        have dj59 : Dj k1 k38 := Dj.app (dj23.symm) o1.le hk38
        have dj60 : Dj k2 k38 := Dj.app (dj25.symm) o2.le hk38
        have dj61 : Dj k3 k38 := Dj.app (dj28.symm) o3.le hk38
        have dj62 : Dj ko k38 := Dj.app (dj32.symm) ow.le hk38
        have df63 := DF.app (fg0) (bf_hx.mono (by omega)) hk38
        have dj64 : Dj (H24.size + 1) k38 := Dj.app (dj45.symm) ow37.le hk38
        have nx65 : Nx 0 H0.size k38 := Nx.tr (nx8) hk38 hm0.size
        have nx66 : Nx 0 H6.size k38 := Nx.tr (nx36) hk38 hlm1.size
        have nx67 : Nx k0 H37.size k38 := Nx.tr (nx54) hk38 hq10.size
        replace hb := hb.upL hs38 (DFL.cons df6 DFL.nil)
        replace ol := ol.upL hs38 (DL.cons dj7 DL.nil)
        replace hS := hS.upL hs38 (DL.cons dj21 DL.nil)
        replace o1 := o1.upL hs38 (DL.cons dj23.symm DL.nil)
        replace o2 := o2.upL hs38 (DL.cons dj25.symm DL.nil)
        replace o3 := o3.upL hs38 (DL.cons dj28.symm DL.nil)
        replace ow := ow.upL hs38 (DL.cons dj32.symm DL.nil)
        replace hx := fun x hx_ => (hx x hx_).upL hs38 (DFL.cons fg0 DFL.nil)
        replace ow37 := ow37.upL hs38 (DL.cons dj45.symm DL.nil)
        replace hm0 := (Mo.trL (ks := []) (hm0.mdn []) hs38 (MIL.cons (MI.app MI.z (nx8) (Nat.le_refl _)) MIL.nil)).nil
        replace hlm1 := hlm1.trL hs38 (MIL.cons (MI.app MI.z (nx36) (Nat.le_refl _)) MIL.nil)
        replace hq10 := hq10.trL hs38 (MIL.cons (MI.app (MI.root (by simp)) (nx54) (Nat.le_refl _)) MIL.nil)
        have hz6 := hs38.size
        have hle_o0 := o0.le
        obtain ⟨s38, rfl⟩ : ∃ s : SV, v38 = s.v := ⟨toSV v38, o0.sv.symm⟩
        refine ⟨.inr hq10, LH.narrow (SH2 := fun Hq => Mo (Ms [k38, (H24.size + 1)]) H38 Hq) (fun Hq hq => hq10.trL hq (MIL.cons (MI.app (MI.root (by simp)) (nx67) (Nat.le_refl _)) (MIL.cons (MI.app (MI.root (by simp)) (nx55) (Nat.le_refl _)) MIL.nil))) ?_⟩
        have hq10 : Mo (Ms [k38, (H24.size + 1)]) H38 H38 := Mo.refl _ _
        have nx68 := Nx.refl k38 H38.size
        have nx69 := Nx.refl (H24.size + 1) H38.size
        refine LH.take 10 (by kernel_rfl) rfl (by kernel_rfl) (by kernel_rfl) (by kernel_rfl) (fun Hq hq => Y.arrAddr (hS.upL hq (DL.cons dj58 (DL.cons dj44 DL.nil))).pt (1) rfl Try.runUnderlying71 Try.sizeOf32 rfl rfl (by first | rfl | omega) (by first | omega | (simp; omega) | (simp; done))) (Wd.u rfl) rfl rfl hq10 ?_
        refine LH.one (i := 11) (by kernel_rfl) ?_
        refine LO.s rfl (S.var1 hS (0 + (1)) ([s3.v, s38.v, s1.v, s2.v]) rfl rfl rfl (rfl) Try.sizeOf32 (by simp) (rfl)) (Wd.u rfl) rfl (fun H10_11 r10_11 => ?_)
        obtain ⟨hS, hs10_11⟩ := r10_11
        replace hs10_11 := hs10_11.md1
        replace hb := hb.upL hs10_11 (DFL.cons df3 DFL.nil)
        replace ol := ol.upL hs10_11 (DL.cons dj4 DL.nil)
        replace o0 := o0.upL hs10_11 (DL.cons dj58.symm DL.nil)
        replace o1 := o1.upL hs10_11 (DL.cons dj22.symm DL.nil)
        replace o2 := o2.upL hs10_11 (DL.cons dj24.symm DL.nil)
        replace o3 := o3.upL hs10_11 (DL.cons dj27.symm DL.nil)
        replace ow := ow.upL hs10_11 (DL.cons dj31.symm DL.nil)
        replace hx := fun x hx_ => (hx x hx_).upL hs10_11 (DFL.cons fgS DFL.nil)
        replace ow37 := ow37.upL hs10_11 (DL.cons dj44.symm DL.nil)
        replace hm0 := (Mo.trL (ks := []) (hm0.mdn []) hs10_11 (MIL.cons (MI.app MI.z (nx5) (Nat.le_refl _)) MIL.nil)).nil
        replace hlm1 := hlm1.trL hs10_11 (MIL.cons (MI.app (MI.root (by simp)) (nx_hlm1_hS) (Nat.le_refl _)) MIL.nil)
        -- LOST hq10
        have hz7 := hs10_11.size
        refine ⟨.inl rfl, ?_⟩
        refine LH.done (by kernel_rfl) ?_
        refine hK17 _ _ ?_
        refine CW.exit (hE15 (.exit 1) nofun _ _ (hX13 _ _ ?_))
        refine hK12 _ _ ?_
        refine CW.region ?_
        refine LR.v (Y.move rfl rfl) (Wd.u rfl) rfl rfl ?_
        refine LR.v (Y.addi rfl rfl rfl (by omega)) (Wd.u rfl) rfl rfl ?_
        refine LR.v (Y.assign rfl rfl) (Wd.u rfl) rfl rfl ?_
        refine LR.nil ?_
        have hgo := (prun_snoc ls i (by omega) _ hp).trans (pstp_no (by omega))
        refine QN.sub (hN9 (i + 1, s38, k38, S0 ++ [ls[i]], s1, k1, S1, s2, k2, S2, s3, k3, S3, vo, ko, l, G, 0) _ ?_ ?_) ⟨rfl, rfl, rfl, (iv (by omega)), (iv (by omega)), trivial⟩
        · exact ⟨(by omega), hS, o0, o1, o2, o3, ow, hx, (bf_hx.mono (by omega)), df63, fg1, fg2, fg3, fgw, fgS, (by omega), hgo, (by first | omega | (simp only [List.length_append, List.length_singleton]; omega)), hlk, nx66, nx37, nx38, nx39, nx40, dj58, dj22, dj59.symm, dj24, dj60.symm, dj26, dj27, dj61.symm, dj29, dj30, dj31, dj62.symm, dj33, dj34, dj35, hlm1⟩
        · first | omega | (simp only; omega) | (simp; omega)
      ·
        refine CW.seq (fun K18 hK18 hE18 => ?_)
        refine CW.region_any (fun Hq => Mo (Ms [k1]) H24 Hq) [11] rfl ?_
        have hq10 : Mo (Ms [k1]) H24 H24 := Mo.refl _ _
        have nx70 := Nx.refl k1 H24.size
        refine LH.take 0 (by kernel_rfl) rfl (by kernel_rfl) (by kernel_rfl) (by kernel_rfl) (fun Hq hq => Y.cast (v2 := .int .i64 2) (Y.move rfl rfl) (rfl)) (Wd.u rfl) rfl rfl hq10 ?_
        refine LH.take 1 (by kernel_rfl) rfl (by kernel_rfl) (by kernel_rfl) (by kernel_rfl) (fun Hq hq => Y.cast (v2 := .int .i64 2) (Y.move rfl rfl) (rfl)) (Wd.u rfl) rfl rfl hq10 ?_
        refine LH.take 2 (by kernel_rfl) rfl (by kernel_rfl) (by kernel_rfl) (by kernel_rfl) (fun Hq hq => Y.arrAddr (hS.upL hq (DL.cons dj22 DL.nil)).pt (2) rfl Try.runUnderlying71 Try.sizeOf32 rfl rfl (by first | rfl | omega) (by first | omega | (simp; omega) | (simp; done))) (Wd.u rfl) rfl rfl hq10 ?_
        refine LH.take 3 (by kernel_rfl) rfl (by kernel_rfl) (by kernel_rfl) (by kernel_rfl) (fun Hq hq => Y.load1 ((hS.upL hq (DL.cons dj22 DL.nil)).pt.at (2) (rfl)) rfl Try.isAgg32 rfl) (Wd.u rfl) rfl rfl hq10 ?_
        refine LH.take 4 (by kernel_rfl) rfl (by kernel_rfl) (by kernel_rfl) (by kernel_rfl) (fun Hq hq => Y.move rfl rfl) (Wd.u rfl) rfl rfl hq10 ?_
        refine LH.take 5 (by kernel_rfl) rfl (by kernel_rfl) (by kernel_rfl) (by kernel_rfl) (fun Hq hq => Y.move rfl rfl) (Wd.u rfl) rfl rfl hq10 ?_
        refine LH.take 6 (by kernel_rfl) rfl (by kernel_rfl) (by kernel_rfl) (by kernel_rfl) (fun Hq hq => Y.owAddr (ol.upL hq (DL.cons dj10 DL.nil)) (i) rfl Try.runUnderlying32 Try.sizeOf9 rfl rfl (by first | rfl | omega) (by first | omega | (simp; omega) | (simp; done))) (Wd.u rfl) rfl rfl hq10 ?_
        refine LH.take 7 (by kernel_rfl) rfl (by kernel_rfl) (by kernel_rfl) (by kernel_rfl) (fun Hq hq => Y.load1 ((ol.upL hq (DL.cons dj10 DL.nil)).pt (j := i) (by first | omega | (simp; omega) | (simp; done))) rfl Try.isAgg9 rfl) (Wd.u rfl) rfl rfl hq10 ?_
        refine LH.one (i := 8) (by kernel_rfl) ?_
        refine LO.z rfl (Z.litw _ ([ls[i]]) rfl inf32 rfl rfl rfl (by decide) (by decide) fS_len fS_one (rfl)) (Wd.u rfl) rfl rfl (fun v37 H37 r37 => ?_)
        obtain ⟨ow37, hs37, ob37, hH37⟩ := r37
        have hzs37 : H37.size = H24.size + 1 := by rw [hH37]; simp
        have df71 := (DF.new (bf_hb.mono hm0.size) : DF _ (H24.size + 1))
        have dj72 : Dj kl (H24.size + 1) := Dj.new ol.le
        have dj73 : Dj (H12.size + 1) (H24.size + 1) := Dj.new hS.lt
        have dj74 : Dj k0 (H24.size + 1) := Dj.new o0.le
        have dj75 : Dj k1 (H24.size + 1) := Dj.new o1.le
        have dj76 : Dj k2 (H24.size + 1) := Dj.new o2.le
        have dj77 : Dj k3 (H24.size + 1) := Dj.new o3.le
        have dj78 : Dj ko (H24.size + 1) := Dj.new ow.le
        have df79 := (DF.new (bf_hx.mono (by omega)) : DF _ (H24.size + 1))
        have nx80 : Nx 0 H0.size (H24.size + 1) := Nx.new hm0.size
        have nx81 : Nx 0 H6.size (H24.size + 1) := Nx.new hlm1.size
        have nx82 : Nx 0 H24.size (H24.size + 1) := Nx.new hq10.size
        replace hb := hb.nw hs37
        replace ol := ol.nw hs37
        replace hS := hS.nw hs37
        replace o0 := o0.nw hs37
        replace o1 := o1.nw hs37
        replace o2 := o2.nw hs37
        replace o3 := o3.nw hs37
        replace ow := ow.nw hs37
        replace hx := fun x hx_ => (hx x hx_).nw hs37
        replace hm0 := hm0.tr hs37
        replace hlm1 := hlm1.trN hs37
        replace hq10 := hq10.trN hs37
        have hz8 := hs37.size
        refine ⟨.inr hq10, LH.narrow (SH2 := fun Hq => Mo (Ms [k1, (H24.size + 1)]) H37 Hq) (fun Hq hq => hq10.trL hq (MIL.cons (MI.app (MI.root (by simp)) (nx70) (Nat.le_refl _)) (MIL.cons (MI.app MI.z (nx82) (Nat.le_refl _)) MIL.nil))) ?_⟩
        have hq10 : Mo (Ms [k1, (H24.size + 1)]) H37 H37 := Mo.refl _ _
        have nx83 := Nx.refl k1 H37.size
        have nx84 := Nx.refl (H24.size + 1) H37.size
        refine LH.one (i := 9) (by kernel_rfl) ?_
        refine LO.z rfl (Z.apnd o1 ow37.rd rfl inf32 rfl rfl (by simp; omega) (by simp; omega)) (Wd.u rfl) rfl rfl (fun v38 H38 r38 => ?_)
        obtain ⟨k38, o1, hk38, hs38⟩ := r38
        replace hk38 : Nx k1 H37.size k38 := hk38
        replace hs38 := hs38.md
        have df85 := DF.app (df9) (bf_hb.mono hm0.size) hk38
        have dj86 : Dj kl k38 := Dj.app (dj10) ol.le hk38
        have dj87 : Dj (H12.size + 1) k38 := Dj.app (dj22) hS.lt hk38
        have dj88 : Dj k0 k38 := Dj.app (dj23) o0.le hk38
        have dj89 : Dj k2 k38 := Dj.app (dj26.symm) o2.le hk38
        have dj90 : Dj k3 k38 := Dj.app (dj29.symm) o3.le hk38
        have dj91 : Dj ko k38 := Dj.app (dj33.symm) ow.le hk38
        have df92 := DF.app (fg1) (bf_hx.mono (by omega)) hk38
        have dj93 : Dj (H24.size + 1) k38 := Dj.app (dj75.symm) ow37.le hk38
        have nx94 : Nx 0 H0.size k38 := Nx.tr (nx11) hk38 hm0.size
        have nx95 : Nx 0 H6.size k38 := Nx.tr (nx37) hk38 hlm1.size
        have nx96 : Nx k1 H37.size k38 := Nx.tr (nx83) hk38 hq10.size
        replace hb := hb.upL hs38 (DFL.cons df9 DFL.nil)
        replace ol := ol.upL hs38 (DL.cons dj10 DL.nil)
        replace hS := hS.upL hs38 (DL.cons dj22 DL.nil)
        replace o0 := o0.upL hs38 (DL.cons dj23 DL.nil)
        replace o2 := o2.upL hs38 (DL.cons dj26.symm DL.nil)
        replace o3 := o3.upL hs38 (DL.cons dj29.symm DL.nil)
        replace ow := ow.upL hs38 (DL.cons dj33.symm DL.nil)
        replace hx := fun x hx_ => (hx x hx_).upL hs38 (DFL.cons fg1 DFL.nil)
        replace ow37 := ow37.upL hs38 (DL.cons dj75.symm DL.nil)
        replace hm0 := (Mo.trL (ks := []) (hm0.mdn []) hs38 (MIL.cons (MI.app MI.z (nx11) (Nat.le_refl _)) MIL.nil)).nil
        replace hlm1 := hlm1.trL hs38 (MIL.cons (MI.app MI.z (nx37) (Nat.le_refl _)) MIL.nil)
        replace hq10 := hq10.trL hs38 (MIL.cons (MI.app (MI.root (by simp)) (nx83) (Nat.le_refl _)) MIL.nil)
        have hz9 := hs38.size
        have hle_o1 := o1.le
        obtain ⟨s38, rfl⟩ : ∃ s : SV, v38 = s.v := ⟨toSV v38, o1.sv.symm⟩
        refine ⟨.inr hq10, LH.narrow (SH2 := fun Hq => Mo (Ms [k38, (H24.size + 1)]) H38 Hq) (fun Hq hq => hq10.trL hq (MIL.cons (MI.app (MI.root (by simp)) (nx96) (Nat.le_refl _)) (MIL.cons (MI.app (MI.root (by simp)) (nx84) (Nat.le_refl _)) MIL.nil))) ?_⟩
        have hq10 : Mo (Ms [k38, (H24.size + 1)]) H38 H38 := Mo.refl _ _
        have nx97 := Nx.refl k38 H38.size
        have nx98 := Nx.refl (H24.size + 1) H38.size
        refine LH.take 10 (by kernel_rfl) rfl (by kernel_rfl) (by kernel_rfl) (by kernel_rfl) (fun Hq hq => Y.arrAddr (hS.upL hq (DL.cons dj87 (DL.cons dj73 DL.nil))).pt (2) rfl Try.runUnderlying71 Try.sizeOf32 rfl rfl (by first | rfl | omega) (by first | omega | (simp; omega) | (simp; done))) (Wd.u rfl) rfl rfl hq10 ?_
        refine LH.one (i := 11) (by kernel_rfl) ?_
        refine LO.s rfl (S.var1 hS (0 + (2)) ([s3.v, s0.v, s38.v, s2.v]) rfl rfl rfl (rfl) Try.sizeOf32 (by simp) (rfl)) (Wd.u rfl) rfl (fun H10_11 r10_11 => ?_)
        obtain ⟨hS, hs10_11⟩ := r10_11
        replace hs10_11 := hs10_11.md1
        replace hb := hb.upL hs10_11 (DFL.cons df3 DFL.nil)
        replace ol := ol.upL hs10_11 (DL.cons dj4 DL.nil)
        replace o0 := o0.upL hs10_11 (DL.cons dj21.symm DL.nil)
        replace o1 := o1.upL hs10_11 (DL.cons dj87.symm DL.nil)
        replace o2 := o2.upL hs10_11 (DL.cons dj24.symm DL.nil)
        replace o3 := o3.upL hs10_11 (DL.cons dj27.symm DL.nil)
        replace ow := ow.upL hs10_11 (DL.cons dj31.symm DL.nil)
        replace hx := fun x hx_ => (hx x hx_).upL hs10_11 (DFL.cons fgS DFL.nil)
        replace ow37 := ow37.upL hs10_11 (DL.cons dj73.symm DL.nil)
        replace hm0 := (Mo.trL (ks := []) (hm0.mdn []) hs10_11 (MIL.cons (MI.app MI.z (nx5) (Nat.le_refl _)) MIL.nil)).nil
        replace hlm1 := hlm1.trL hs10_11 (MIL.cons (MI.app (MI.root (by simp)) (nx_hlm1_hS) (Nat.le_refl _)) MIL.nil)
        -- LOST hq10
        have hz10 := hs10_11.size
        refine ⟨.inl rfl, ?_⟩
        refine LH.done (by kernel_rfl) ?_
        refine hK18 _ _ ?_
        refine CW.exit (hE15 (.exit 1) nofun _ _ (hX13 _ _ ?_))
        refine hK12 _ _ ?_
        refine CW.region ?_
        refine LR.v (Y.move rfl rfl) (Wd.u rfl) rfl rfl ?_
        refine LR.v (Y.addi rfl rfl rfl (by omega)) (Wd.u rfl) rfl rfl ?_
        refine LR.v (Y.assign rfl rfl) (Wd.u rfl) rfl rfl ?_
        refine LR.nil ?_
        have hgo := (prun_snoc ls i (by omega) _ hp).trans (pstp_no (by omega))
        refine QN.sub (hN9 (i + 1, s0, k0, S0, s38, k38, S1 ++ [ls[i]], s2, k2, S2, s3, k3, S3, vo, ko, l, G, 1) _ ?_ ?_) ⟨rfl, rfl, rfl, (iv (by omega)), (iv (by omega)), trivial⟩
        · exact ⟨(by omega), hS, o0, o1, o2, o3, ow, hx, (bf_hx.mono (by omega)), fg0, df92, fg2, fg3, fgw, fgS, (by omega), hgo, (by first | omega | (simp only [List.length_append, List.length_singleton]; omega)), hlk, nx36, nx95, nx38, nx39, nx40, dj21, dj87, dj88, dj24, dj25, dj89.symm, dj27, dj28, dj90.symm, dj30, dj31, dj32, dj91.symm, dj34, dj35, hlm1⟩
        · first | omega | (simp only; omega) | (simp; omega)
      ·
        refine CW.seq (fun K19 hK19 hE19 => ?_)
        refine CW.region_any (fun Hq => Mo (Ms [k2]) H24 Hq) [11] rfl ?_
        have hq10 : Mo (Ms [k2]) H24 H24 := Mo.refl _ _
        have nx99 := Nx.refl k2 H24.size
        refine LH.take 0 (by kernel_rfl) rfl (by kernel_rfl) (by kernel_rfl) (by kernel_rfl) (fun Hq hq => Y.cast (v2 := .int .i64 3) (Y.move rfl rfl) (rfl)) (Wd.u rfl) rfl rfl hq10 ?_
        refine LH.take 1 (by kernel_rfl) rfl (by kernel_rfl) (by kernel_rfl) (by kernel_rfl) (fun Hq hq => Y.cast (v2 := .int .i64 3) (Y.move rfl rfl) (rfl)) (Wd.u rfl) rfl rfl hq10 ?_
        refine LH.take 2 (by kernel_rfl) rfl (by kernel_rfl) (by kernel_rfl) (by kernel_rfl) (fun Hq hq => Y.arrAddr (hS.upL hq (DL.cons dj24 DL.nil)).pt (3) rfl Try.runUnderlying71 Try.sizeOf32 rfl rfl (by first | rfl | omega) (by first | omega | (simp; omega) | (simp; done))) (Wd.u rfl) rfl rfl hq10 ?_
        refine LH.take 3 (by kernel_rfl) rfl (by kernel_rfl) (by kernel_rfl) (by kernel_rfl) (fun Hq hq => Y.load1 ((hS.upL hq (DL.cons dj24 DL.nil)).pt.at (3) (rfl)) rfl Try.isAgg32 rfl) (Wd.u rfl) rfl rfl hq10 ?_
        refine LH.take 4 (by kernel_rfl) rfl (by kernel_rfl) (by kernel_rfl) (by kernel_rfl) (fun Hq hq => Y.move rfl rfl) (Wd.u rfl) rfl rfl hq10 ?_
        refine LH.take 5 (by kernel_rfl) rfl (by kernel_rfl) (by kernel_rfl) (by kernel_rfl) (fun Hq hq => Y.move rfl rfl) (Wd.u rfl) rfl rfl hq10 ?_
        refine LH.take 6 (by kernel_rfl) rfl (by kernel_rfl) (by kernel_rfl) (by kernel_rfl) (fun Hq hq => Y.owAddr (ol.upL hq (DL.cons dj13 DL.nil)) (i) rfl Try.runUnderlying32 Try.sizeOf9 rfl rfl (by first | rfl | omega) (by first | omega | (simp; omega) | (simp; done))) (Wd.u rfl) rfl rfl hq10 ?_
        refine LH.take 7 (by kernel_rfl) rfl (by kernel_rfl) (by kernel_rfl) (by kernel_rfl) (fun Hq hq => Y.load1 ((ol.upL hq (DL.cons dj13 DL.nil)).pt (j := i) (by first | omega | (simp; omega) | (simp; done))) rfl Try.isAgg9 rfl) (Wd.u rfl) rfl rfl hq10 ?_
        refine LH.one (i := 8) (by kernel_rfl) ?_
        refine LO.z rfl (Z.litw _ ([ls[i]]) rfl inf32 rfl rfl rfl (by decide) (by decide) fS_len fS_one (rfl)) (Wd.u rfl) rfl rfl (fun v37 H37 r37 => ?_)
        obtain ⟨ow37, hs37, ob37, hH37⟩ := r37
        have hzs37 : H37.size = H24.size + 1 := by rw [hH37]; simp
        have df100 := (DF.new (bf_hb.mono hm0.size) : DF _ (H24.size + 1))
        have dj101 : Dj kl (H24.size + 1) := Dj.new ol.le
        have dj102 : Dj (H12.size + 1) (H24.size + 1) := Dj.new hS.lt
        have dj103 : Dj k0 (H24.size + 1) := Dj.new o0.le
        have dj104 : Dj k1 (H24.size + 1) := Dj.new o1.le
        have dj105 : Dj k2 (H24.size + 1) := Dj.new o2.le
        have dj106 : Dj k3 (H24.size + 1) := Dj.new o3.le
        have dj107 : Dj ko (H24.size + 1) := Dj.new ow.le
        have df108 := (DF.new (bf_hx.mono (by omega)) : DF _ (H24.size + 1))
        have nx109 : Nx 0 H0.size (H24.size + 1) := Nx.new hm0.size
        have nx110 : Nx 0 H6.size (H24.size + 1) := Nx.new hlm1.size
        have nx111 : Nx 0 H24.size (H24.size + 1) := Nx.new hq10.size
        replace hb := hb.nw hs37
        replace ol := ol.nw hs37
        replace hS := hS.nw hs37
        replace o0 := o0.nw hs37
        replace o1 := o1.nw hs37
        replace o2 := o2.nw hs37
        replace o3 := o3.nw hs37
        replace ow := ow.nw hs37
        replace hx := fun x hx_ => (hx x hx_).nw hs37
        replace hm0 := hm0.tr hs37
        replace hlm1 := hlm1.trN hs37
        replace hq10 := hq10.trN hs37
        have hz11 := hs37.size
        refine ⟨.inr hq10, LH.narrow (SH2 := fun Hq => Mo (Ms [k2, (H24.size + 1)]) H37 Hq) (fun Hq hq => hq10.trL hq (MIL.cons (MI.app (MI.root (by simp)) (nx99) (Nat.le_refl _)) (MIL.cons (MI.app MI.z (nx111) (Nat.le_refl _)) MIL.nil))) ?_⟩
        have hq10 : Mo (Ms [k2, (H24.size + 1)]) H37 H37 := Mo.refl _ _
        have nx112 := Nx.refl k2 H37.size
        have nx113 := Nx.refl (H24.size + 1) H37.size
        refine LH.one (i := 9) (by kernel_rfl) ?_
        refine LO.z rfl (Z.apnd o2 ow37.rd rfl inf32 rfl rfl (by simp; omega) (by simp; omega)) (Wd.u rfl) rfl rfl (fun v38 H38 r38 => ?_)
        obtain ⟨k38, o2, hk38, hs38⟩ := r38
        replace hk38 : Nx k2 H37.size k38 := hk38
        replace hs38 := hs38.md
        have df114 := DF.app (df12) (bf_hb.mono hm0.size) hk38
        have dj115 : Dj kl k38 := Dj.app (dj13) ol.le hk38
        have dj116 : Dj (H12.size + 1) k38 := Dj.app (dj24) hS.lt hk38
        have dj117 : Dj k0 k38 := Dj.app (dj25) o0.le hk38
        have dj118 : Dj k1 k38 := Dj.app (dj26) o1.le hk38
        have dj119 : Dj k3 k38 := Dj.app (dj30.symm) o3.le hk38
        have dj120 : Dj ko k38 := Dj.app (dj34.symm) ow.le hk38
        have df121 := DF.app (fg2) (bf_hx.mono (by omega)) hk38
        have dj122 : Dj (H24.size + 1) k38 := Dj.app (dj105.symm) ow37.le hk38
        have nx123 : Nx 0 H0.size k38 := Nx.tr (nx14) hk38 hm0.size
        have nx124 : Nx 0 H6.size k38 := Nx.tr (nx38) hk38 hlm1.size
        have nx125 : Nx k2 H37.size k38 := Nx.tr (nx112) hk38 hq10.size
        replace hb := hb.upL hs38 (DFL.cons df12 DFL.nil)
        replace ol := ol.upL hs38 (DL.cons dj13 DL.nil)
        replace hS := hS.upL hs38 (DL.cons dj24 DL.nil)
        replace o0 := o0.upL hs38 (DL.cons dj25 DL.nil)
        replace o1 := o1.upL hs38 (DL.cons dj26 DL.nil)
        replace o3 := o3.upL hs38 (DL.cons dj30.symm DL.nil)
        replace ow := ow.upL hs38 (DL.cons dj34.symm DL.nil)
        replace hx := fun x hx_ => (hx x hx_).upL hs38 (DFL.cons fg2 DFL.nil)
        replace ow37 := ow37.upL hs38 (DL.cons dj105.symm DL.nil)
        replace hm0 := (Mo.trL (ks := []) (hm0.mdn []) hs38 (MIL.cons (MI.app MI.z (nx14) (Nat.le_refl _)) MIL.nil)).nil
        replace hlm1 := hlm1.trL hs38 (MIL.cons (MI.app MI.z (nx38) (Nat.le_refl _)) MIL.nil)
        replace hq10 := hq10.trL hs38 (MIL.cons (MI.app (MI.root (by simp)) (nx112) (Nat.le_refl _)) MIL.nil)
        have hz12 := hs38.size
        have hle_o2 := o2.le
        obtain ⟨s38, rfl⟩ : ∃ s : SV, v38 = s.v := ⟨toSV v38, o2.sv.symm⟩
        refine ⟨.inr hq10, LH.narrow (SH2 := fun Hq => Mo (Ms [k38, (H24.size + 1)]) H38 Hq) (fun Hq hq => hq10.trL hq (MIL.cons (MI.app (MI.root (by simp)) (nx125) (Nat.le_refl _)) (MIL.cons (MI.app (MI.root (by simp)) (nx113) (Nat.le_refl _)) MIL.nil))) ?_⟩
        have hq10 : Mo (Ms [k38, (H24.size + 1)]) H38 H38 := Mo.refl _ _
        have nx126 := Nx.refl k38 H38.size
        have nx127 := Nx.refl (H24.size + 1) H38.size
        refine LH.take 10 (by kernel_rfl) rfl (by kernel_rfl) (by kernel_rfl) (by kernel_rfl) (fun Hq hq => Y.arrAddr (hS.upL hq (DL.cons dj116 (DL.cons dj102 DL.nil))).pt (3) rfl Try.runUnderlying71 Try.sizeOf32 rfl rfl (by first | rfl | omega) (by first | omega | (simp; omega) | (simp; done))) (Wd.u rfl) rfl rfl hq10 ?_
        refine LH.one (i := 11) (by kernel_rfl) ?_
        refine LO.s rfl (S.var1 hS (0 + (3)) ([s3.v, s0.v, s1.v, s38.v]) rfl rfl rfl (rfl) Try.sizeOf32 (by simp) (rfl)) (Wd.u rfl) rfl (fun H10_11 r10_11 => ?_)
        obtain ⟨hS, hs10_11⟩ := r10_11
        replace hs10_11 := hs10_11.md1
        replace hb := hb.upL hs10_11 (DFL.cons df3 DFL.nil)
        replace ol := ol.upL hs10_11 (DL.cons dj4 DL.nil)
        replace o0 := o0.upL hs10_11 (DL.cons dj21.symm DL.nil)
        replace o1 := o1.upL hs10_11 (DL.cons dj22.symm DL.nil)
        replace o2 := o2.upL hs10_11 (DL.cons dj116.symm DL.nil)
        replace o3 := o3.upL hs10_11 (DL.cons dj27.symm DL.nil)
        replace ow := ow.upL hs10_11 (DL.cons dj31.symm DL.nil)
        replace hx := fun x hx_ => (hx x hx_).upL hs10_11 (DFL.cons fgS DFL.nil)
        replace ow37 := ow37.upL hs10_11 (DL.cons dj102.symm DL.nil)
        replace hm0 := (Mo.trL (ks := []) (hm0.mdn []) hs10_11 (MIL.cons (MI.app MI.z (nx5) (Nat.le_refl _)) MIL.nil)).nil
        replace hlm1 := hlm1.trL hs10_11 (MIL.cons (MI.app (MI.root (by simp)) (nx_hlm1_hS) (Nat.le_refl _)) MIL.nil)
        -- LOST hq10
        have hz13 := hs10_11.size
        refine ⟨.inl rfl, ?_⟩
        refine LH.done (by kernel_rfl) ?_
        refine hK19 _ _ ?_
        refine CW.exit (hE15 (.exit 1) nofun _ _ (hX13 _ _ ?_))
        refine hK12 _ _ ?_
        refine CW.region ?_
        refine LR.v (Y.move rfl rfl) (Wd.u rfl) rfl rfl ?_
        refine LR.v (Y.addi rfl rfl rfl (by omega)) (Wd.u rfl) rfl rfl ?_
        refine LR.v (Y.assign rfl rfl) (Wd.u rfl) rfl rfl ?_
        refine LR.nil ?_
        have hgo := (prun_snoc ls i (by omega) _ hp).trans (pstp_no (by omega))
        refine QN.sub (hN9 (i + 1, s0, k0, S0, s1, k1, S1, s38, k38, S2 ++ [ls[i]], s3, k3, S3, vo, ko, l, G, 2) _ ?_ ?_) ⟨rfl, rfl, rfl, (iv (by omega)), (iv (by omega)), trivial⟩
        · exact ⟨(by omega), hS, o0, o1, o2, o3, ow, hx, (bf_hx.mono (by omega)), fg0, fg1, df121, fg3, fgw, fgS, (by omega), hgo, (by first | omega | (simp only [List.length_append, List.length_singleton]; omega)), hlk, nx36, nx37, nx124, nx39, nx40, dj21, dj22, dj23, dj116, dj117, dj118, dj27, dj28, dj29, dj119.symm, dj31, dj32, dj33, dj120.symm, dj35, hlm1⟩
        · first | omega | (simp only; omega) | (simp; omega)
      ·
        refine CW.seq (fun K20 hK20 hE20 => ?_)
        refine CW.region_any (fun Hq => Mo (Ms [k3]) H24 Hq) [11] rfl ?_
        have hq10 : Mo (Ms [k3]) H24 H24 := Mo.refl _ _
        have nx128 := Nx.refl k3 H24.size
        refine LH.take 0 (by kernel_rfl) rfl (by kernel_rfl) (by kernel_rfl) (by kernel_rfl) (fun Hq hq => Y.cast (v2 := .int .i64 0) (Y.move rfl rfl) (rfl)) (Wd.u rfl) rfl rfl hq10 ?_
        refine LH.take 1 (by kernel_rfl) rfl (by kernel_rfl) (by kernel_rfl) (by kernel_rfl) (fun Hq hq => Y.cast (v2 := .int .i64 0) (Y.move rfl rfl) (rfl)) (Wd.u rfl) rfl rfl hq10 ?_
        refine LH.take 2 (by kernel_rfl) rfl (by kernel_rfl) (by kernel_rfl) (by kernel_rfl) (fun Hq hq => Y.arrAddr (hS.upL hq (DL.cons dj27 DL.nil)).pt (0) rfl Try.runUnderlying71 Try.sizeOf32 rfl rfl (by first | rfl | omega) (by first | omega | (simp; omega) | (simp; done))) (Wd.u rfl) rfl rfl hq10 ?_
        refine LH.take 3 (by kernel_rfl) rfl (by kernel_rfl) (by kernel_rfl) (by kernel_rfl) (fun Hq hq => Y.load1 ((hS.upL hq (DL.cons dj27 DL.nil)).pt.at (0) (rfl)) rfl Try.isAgg32 rfl) (Wd.u rfl) rfl rfl hq10 ?_
        refine LH.take 4 (by kernel_rfl) rfl (by kernel_rfl) (by kernel_rfl) (by kernel_rfl) (fun Hq hq => Y.move rfl rfl) (Wd.u rfl) rfl rfl hq10 ?_
        refine LH.take 5 (by kernel_rfl) rfl (by kernel_rfl) (by kernel_rfl) (by kernel_rfl) (fun Hq hq => Y.move rfl rfl) (Wd.u rfl) rfl rfl hq10 ?_
        refine LH.take 6 (by kernel_rfl) rfl (by kernel_rfl) (by kernel_rfl) (by kernel_rfl) (fun Hq hq => Y.owAddr (ol.upL hq (DL.cons dj16 DL.nil)) (i) rfl Try.runUnderlying32 Try.sizeOf9 rfl rfl (by first | rfl | omega) (by first | omega | (simp; omega) | (simp; done))) (Wd.u rfl) rfl rfl hq10 ?_
        refine LH.take 7 (by kernel_rfl) rfl (by kernel_rfl) (by kernel_rfl) (by kernel_rfl) (fun Hq hq => Y.load1 ((ol.upL hq (DL.cons dj16 DL.nil)).pt (j := i) (by first | omega | (simp; omega) | (simp; done))) rfl Try.isAgg9 rfl) (Wd.u rfl) rfl rfl hq10 ?_
        refine LH.one (i := 8) (by kernel_rfl) ?_
        refine LO.z rfl (Z.litw _ ([ls[i]]) rfl inf32 rfl rfl rfl (by decide) (by decide) fS_len fS_one (rfl)) (Wd.u rfl) rfl rfl (fun v37 H37 r37 => ?_)
        obtain ⟨ow37, hs37, ob37, hH37⟩ := r37
        have hzs37 : H37.size = H24.size + 1 := by rw [hH37]; simp
        have df129 := (DF.new (bf_hb.mono hm0.size) : DF _ (H24.size + 1))
        have dj130 : Dj kl (H24.size + 1) := Dj.new ol.le
        have dj131 : Dj (H12.size + 1) (H24.size + 1) := Dj.new hS.lt
        have dj132 : Dj k0 (H24.size + 1) := Dj.new o0.le
        have dj133 : Dj k1 (H24.size + 1) := Dj.new o1.le
        have dj134 : Dj k2 (H24.size + 1) := Dj.new o2.le
        have dj135 : Dj k3 (H24.size + 1) := Dj.new o3.le
        have dj136 : Dj ko (H24.size + 1) := Dj.new ow.le
        have df137 := (DF.new (bf_hx.mono (by omega)) : DF _ (H24.size + 1))
        have nx138 : Nx 0 H0.size (H24.size + 1) := Nx.new hm0.size
        have nx139 : Nx 0 H6.size (H24.size + 1) := Nx.new hlm1.size
        have nx140 : Nx 0 H24.size (H24.size + 1) := Nx.new hq10.size
        replace hb := hb.nw hs37
        replace ol := ol.nw hs37
        replace hS := hS.nw hs37
        replace o0 := o0.nw hs37
        replace o1 := o1.nw hs37
        replace o2 := o2.nw hs37
        replace o3 := o3.nw hs37
        replace ow := ow.nw hs37
        replace hx := fun x hx_ => (hx x hx_).nw hs37
        replace hm0 := hm0.tr hs37
        replace hlm1 := hlm1.trN hs37
        replace hq10 := hq10.trN hs37
        have hz14 := hs37.size
        refine ⟨.inr hq10, LH.narrow (SH2 := fun Hq => Mo (Ms [k3, (H24.size + 1)]) H37 Hq) (fun Hq hq => hq10.trL hq (MIL.cons (MI.app (MI.root (by simp)) (nx128) (Nat.le_refl _)) (MIL.cons (MI.app MI.z (nx140) (Nat.le_refl _)) MIL.nil))) ?_⟩
        have hq10 : Mo (Ms [k3, (H24.size + 1)]) H37 H37 := Mo.refl _ _
        have nx141 := Nx.refl k3 H37.size
        have nx142 := Nx.refl (H24.size + 1) H37.size
        refine LH.one (i := 9) (by kernel_rfl) ?_
        refine LO.z rfl (Z.apnd o3 ow37.rd rfl inf32 rfl rfl (by simp; omega) (by simp; omega)) (Wd.u rfl) rfl rfl (fun v38 H38 r38 => ?_)
        obtain ⟨k38, o3, hk38, hs38⟩ := r38
        replace hk38 : Nx k3 H37.size k38 := hk38
        replace hs38 := hs38.md
        have df143 := DF.app (df15) (bf_hb.mono hm0.size) hk38
        have dj144 : Dj kl k38 := Dj.app (dj16) ol.le hk38
        have dj145 : Dj (H12.size + 1) k38 := Dj.app (dj27) hS.lt hk38
        have dj146 : Dj k0 k38 := Dj.app (dj28) o0.le hk38
        have dj147 : Dj k1 k38 := Dj.app (dj29) o1.le hk38
        have dj148 : Dj k2 k38 := Dj.app (dj30) o2.le hk38
        have dj149 : Dj ko k38 := Dj.app (dj35.symm) ow.le hk38
        have df150 := DF.app (fg3) (bf_hx.mono (by omega)) hk38
        have dj151 : Dj (H24.size + 1) k38 := Dj.app (dj135.symm) ow37.le hk38
        have nx152 : Nx 0 H0.size k38 := Nx.tr (nx17) hk38 hm0.size
        have nx153 : Nx 0 H6.size k38 := Nx.tr (nx39) hk38 hlm1.size
        have nx154 : Nx k3 H37.size k38 := Nx.tr (nx141) hk38 hq10.size
        replace hb := hb.upL hs38 (DFL.cons df15 DFL.nil)
        replace ol := ol.upL hs38 (DL.cons dj16 DL.nil)
        replace hS := hS.upL hs38 (DL.cons dj27 DL.nil)
        replace o0 := o0.upL hs38 (DL.cons dj28 DL.nil)
        replace o1 := o1.upL hs38 (DL.cons dj29 DL.nil)
        replace o2 := o2.upL hs38 (DL.cons dj30 DL.nil)
        replace ow := ow.upL hs38 (DL.cons dj35.symm DL.nil)
        replace hx := fun x hx_ => (hx x hx_).upL hs38 (DFL.cons fg3 DFL.nil)
        replace ow37 := ow37.upL hs38 (DL.cons dj135.symm DL.nil)
        replace hm0 := (Mo.trL (ks := []) (hm0.mdn []) hs38 (MIL.cons (MI.app MI.z (nx17) (Nat.le_refl _)) MIL.nil)).nil
        replace hlm1 := hlm1.trL hs38 (MIL.cons (MI.app MI.z (nx39) (Nat.le_refl _)) MIL.nil)
        replace hq10 := hq10.trL hs38 (MIL.cons (MI.app (MI.root (by simp)) (nx141) (Nat.le_refl _)) MIL.nil)
        have hz15 := hs38.size
        have hle_o3 := o3.le
        obtain ⟨s38, rfl⟩ : ∃ s : SV, v38 = s.v := ⟨toSV v38, o3.sv.symm⟩
        refine ⟨.inr hq10, LH.narrow (SH2 := fun Hq => Mo (Ms [k38, (H24.size + 1)]) H38 Hq) (fun Hq hq => hq10.trL hq (MIL.cons (MI.app (MI.root (by simp)) (nx154) (Nat.le_refl _)) (MIL.cons (MI.app (MI.root (by simp)) (nx142) (Nat.le_refl _)) MIL.nil))) ?_⟩
        have hq10 : Mo (Ms [k38, (H24.size + 1)]) H38 H38 := Mo.refl _ _
        have nx155 := Nx.refl k38 H38.size
        have nx156 := Nx.refl (H24.size + 1) H38.size
        refine LH.take 10 (by kernel_rfl) rfl (by kernel_rfl) (by kernel_rfl) (by kernel_rfl) (fun Hq hq => Y.arrAddr (hS.upL hq (DL.cons dj145 (DL.cons dj131 DL.nil))).pt (0) rfl Try.runUnderlying71 Try.sizeOf32 rfl rfl (by first | rfl | omega) (by first | omega | (simp; omega) | (simp; done))) (Wd.u rfl) rfl rfl hq10 ?_
        refine LH.one (i := 11) (by kernel_rfl) ?_
        refine LO.s rfl (S.var1 hS (0 + (0)) ([s38.v, s0.v, s1.v, s2.v]) rfl rfl rfl (rfl) Try.sizeOf32 (by simp) (rfl)) (Wd.u rfl) rfl (fun H10_11 r10_11 => ?_)
        obtain ⟨hS, hs10_11⟩ := r10_11
        replace hs10_11 := hs10_11.md1
        replace hb := hb.upL hs10_11 (DFL.cons df3 DFL.nil)
        replace ol := ol.upL hs10_11 (DL.cons dj4 DL.nil)
        replace o0 := o0.upL hs10_11 (DL.cons dj21.symm DL.nil)
        replace o1 := o1.upL hs10_11 (DL.cons dj22.symm DL.nil)
        replace o2 := o2.upL hs10_11 (DL.cons dj24.symm DL.nil)
        replace o3 := o3.upL hs10_11 (DL.cons dj145.symm DL.nil)
        replace ow := ow.upL hs10_11 (DL.cons dj31.symm DL.nil)
        replace hx := fun x hx_ => (hx x hx_).upL hs10_11 (DFL.cons fgS DFL.nil)
        replace ow37 := ow37.upL hs10_11 (DL.cons dj131.symm DL.nil)
        replace hm0 := (Mo.trL (ks := []) (hm0.mdn []) hs10_11 (MIL.cons (MI.app MI.z (nx5) (Nat.le_refl _)) MIL.nil)).nil
        replace hlm1 := hlm1.trL hs10_11 (MIL.cons (MI.app (MI.root (by simp)) (nx_hlm1_hS) (Nat.le_refl _)) MIL.nil)
        -- LOST hq10
        have hz16 := hs10_11.size
        refine ⟨.inl rfl, ?_⟩
        refine LH.done (by kernel_rfl) ?_
        refine hK20 _ _ ?_
        refine CW.exit (hE15 (.exit 1) nofun _ _ (hX13 _ _ ?_))
        refine hK12 _ _ ?_
        refine CW.region ?_
        refine LR.v (Y.move rfl rfl) (Wd.u rfl) rfl rfl ?_
        refine LR.v (Y.addi rfl rfl rfl (by omega)) (Wd.u rfl) rfl rfl ?_
        refine LR.v (Y.assign rfl rfl) (Wd.u rfl) rfl rfl ?_
        refine LR.nil ?_
        have hgo := (prun_snoc ls i (by omega) _ hp).trans (pstp_no (by omega))
        refine QN.sub (hN9 (i + 1, s0, k0, S0, s1, k1, S1, s2, k2, S2, s38, k38, S3 ++ [ls[i]], vo, ko, l, G, 3) _ ?_ ?_) ⟨rfl, rfl, rfl, (iv (by omega)), (iv (by omega)), trivial⟩
        · exact ⟨(by omega), hS, o0, o1, o2, o3, ow, hx, (bf_hx.mono (by omega)), fg0, fg1, fg2, df150, fgw, fgS, (by omega), hgo, (by first | omega | (simp only [List.length_append, List.length_singleton]; omega)), hlk, nx36, nx37, nx38, nx153, nx40, dj21, dj22, dj23, dj24, dj25, dj26, dj145, dj146, dj147, dj148, dj31, dj32, dj33, dj34, dj149.symm, hlm1⟩
        · first | omega | (simp only; omega) | (simp; omega)
    ·
      refine CW.skip ?_
      refine hK15 _ _ ?_
      refine CW.seq (fun K21 hK21 hE21 => ?_)
      refine CW.seq (fun K22 hK22 hE22 => ?_)
      refine CW.region ?_
      refine LR.v (Y.move rfl rfl) (Wd.u rfl) rfl rfl ?_
      refine LR.v (Y.not rfl rfl) (Wd.u rfl) rfl rfl ?_
      refine LR.v (Y.move rfl rfl) (Wd.u rfl) rfl rfl ?_
      refine LR.split (d := 42) rfl (fun g42 => ?_) (fun g42 => ?_)
      ·
        refine LR.gs rfl rfl rfl rfl rfl rfl ?_
        refine LR.gs rfl rfl rfl rfl rfl rfl ?_
        refine LR.gs rfl rfl rfl rfl rfl rfl ?_
        refine LR.v (Y.pick_t rfl rfl rfl) (Wd.u rfl) rfl rfl ?_
        refine LR.nil ?_
        refine hK22 _ _ ?_
        refine CW.cond_t rfl ?_
        refine CW.seq (fun K23 hK23 hE23 => ?_)
        refine CW.region ?_
        refine LR.v (Y.assign rfl rfl) (Wd.u rfl) rfl rfl ?_
        refine LR.v (Y.assign rfl rfl) (Wd.u rfl) rfl rfl ?_
        refine LR.nil ?_
        refine hK23 _ _ ?_
        refine CW.ret (hE21 .ret nofun _ _ (hE13 .ret nofun (by simp) _ _ (hE12 .ret nofun _ _ (hE9 .ret nofun _ _ (hE8 .ret nofun (by simp) _ _ (hE6 .ret nofun _ _ (hret .ret (.inr rfl) _ _ _ (res2 rfl rfl rfl) ?_)))))))
        exact ⟨.slice none 0 0, [], 25, rfl, by rw [parseL, hls, prun_cut ls (i + 1) ((prun_snoc ls i (by omega) _ hp).trans (pstp_bad (by omega) (by first | exact .inr (by rw [← hw24 (by omega)]; first | assumption | simpa using g42) | exact .inl (by simpa using (show markL ls[i] ≠ ((at_ + 1) % 4 : Nat) by omega)))))]; rfl, Rd.nil _ _ _ _, (fun x e => by cases e), hm0⟩
      ·
        refine LR.v (Y.move rfl rfl) (Wd.g rfl rfl rfl) rfl rfl ?_
        refine LR.v (Y.move rfl rfl) (Wd.g rfl rfl rfl) rfl rfl ?_
        refine LR.v (Y.neq rfl rfl rfl) (Wd.g rfl rfl rfl) rfl rfl ?_
        refine LR.v (Y.pick_f rfl rfl rfl) (Wd.u rfl) rfl rfl ?_
        refine LR.nil ?_
        refine hK22 _ _ ?_
        refine CW.condp rfl (fun c46 => ?_) (fun c46 => ?_)
        ·
          refine CW.seq (fun K24 hK24 hE24 => ?_)
          refine CW.region ?_
          refine LR.v (Y.assign rfl rfl) (Wd.u rfl) rfl rfl ?_
          refine LR.v (Y.assign rfl rfl) (Wd.u rfl) rfl rfl ?_
          refine LR.nil ?_
          refine hK24 _ _ ?_
          refine CW.ret (hE21 .ret nofun _ _ (hE13 .ret nofun (by simp) _ _ (hE12 .ret nofun _ _ (hE9 .ret nofun _ _ (hE8 .ret nofun (by simp) _ _ (hE6 .ret nofun _ _ (hret .ret (.inr rfl) _ _ _ (res2 rfl rfl rfl) ?_)))))))
          exact ⟨.slice none 0 0, [], 25, rfl, by rw [parseL, hls, prun_cut ls (i + 1) ((prun_snoc ls i (by omega) _ hp).trans (pstp_bad (by omega) (by first | exact .inr (by rw [← hw24 (by omega)]; first | assumption | simpa using g42) | exact .inl (by simpa using (show markL ls[i] ≠ ((at_ + 1) % 4 : Nat) by omega)))))]; rfl, Rd.nil _ _ _ _, (fun x e => by cases e), hm0⟩
        ·
          refine CW.skip ?_
          refine hK21 _ _ ?_
          refine CW.seq (fun K25 hK25 hE25 => ?_)
          refine CW.region ?_
          refine LR.v (Y.move rfl rfl) (Wd.u rfl) rfl rfl ?_
          refine LR.v (Y.addi rfl rfl rfl (by omega)) (Wd.u rfl) rfl rfl ?_
          refine LR.v (Y.remi rfl rfl rfl (by omega)) (Wd.u rfl) rfl rfl ?_
          refine LR.v (Y.assign rfl rfl) (Wd.u rfl) rfl rfl ?_
          refine LR.nil ?_
          refine hK25 _ _ ?_
          refine CW.seq (fun K26 hK26 hE26 => ?_)
          refine CW.seq (fun K27 hK27 hE27 => ?_)
          refine CW.region ?_
          refine LR.v (Y.move rfl rfl) (Wd.u rfl) rfl rfl ?_
          refine LR.v (Y.eql rfl rfl rfl) (Wd.u rfl) rfl rfl ?_
          refine LR.nil ?_
          refine hK27 _ _ ?_
          refine CW.condp rfl (fun c51 => ?_) (fun c51 => ?_)
          ·
            refine CW.region ?_
            refine LR.v (Y.move rfl rfl) (Wd.u rfl) rfl rfl ?_
            refine LR.v (Y.arrAddr hS.pt (0) rfl Try.runUnderlying71 Try.sizeOf32 rfl rfl (by first | rfl | omega) (by first | omega | (simp; omega) | (simp; done))) (Wd.u rfl) rfl rfl ?_
            refine LR.v (Y.load1 hS.pt rfl Try.isAgg32 rfl) (Wd.u rfl) rfl rfl ?_
            -- call selvage/selvageref14.plain
            refine LR.call rfl Try.call47 rfl (Wd.u rfl) rfl rfl (plain_ct s3.v S3 w0 _ o3.rd.any (by omega)) (fun v55 H55 r55 => ?_)
            obtain ⟨t1a, t2a, t3a, k1a, k2a, k3a, rfl, oba, ooa, ota, hn1a, hn2a, hn3a, d1255, d1355, d2355, hs55⟩ := r55
            have df157 := DF.app (DF.z) (bf_hb.mono hm0.size) hn1a
            have dj158 : Dj kl k1a := Dj.app (Dj.z) ol.le hn1a
            have dj159 : Dj (H12.size + 1) k1a := Dj.app (Dj.z) hS.lt hn1a
            have dj160 : Dj k0 k1a := Dj.app (Dj.z) o0.le hn1a
            have dj161 : Dj k1 k1a := Dj.app (Dj.z) o1.le hn1a
            have dj162 : Dj k2 k1a := Dj.app (Dj.z) o2.le hn1a
            have dj163 : Dj k3 k1a := Dj.app (Dj.z) o3.le hn1a
            have dj164 : Dj ko k1a := Dj.app (Dj.z) ow.le hn1a
            have df165 := DF.app (DF.z) (bf_hx.mono (by omega)) hn1a
            have nx166 : Nx 0 H0.size k1a := Nx.tr (Nx.refl 0 _) hn1a hm0.size
            have nx167 : Nx 0 H6.size k1a := Nx.tr (Nx.refl 0 _) hn1a hlm1.size
            have df168 := DF.app (DF.z) (bf_hb.mono hm0.size) hn2a
            have dj169 : Dj kl k2a := Dj.app (Dj.z) ol.le hn2a
            have dj170 : Dj (H12.size + 1) k2a := Dj.app (Dj.z) hS.lt hn2a
            have dj171 : Dj k0 k2a := Dj.app (Dj.z) o0.le hn2a
            have dj172 : Dj k1 k2a := Dj.app (Dj.z) o1.le hn2a
            have dj173 : Dj k2 k2a := Dj.app (Dj.z) o2.le hn2a
            have dj174 : Dj k3 k2a := Dj.app (Dj.z) o3.le hn2a
            have dj175 : Dj ko k2a := Dj.app (Dj.z) ow.le hn2a
            have df176 := DF.app (DF.z) (bf_hx.mono (by omega)) hn2a
            have nx177 : Nx 0 H0.size k2a := Nx.tr (Nx.refl 0 _) hn2a hm0.size
            have nx178 : Nx 0 H6.size k2a := Nx.tr (Nx.refl 0 _) hn2a hlm1.size
            have df179 := DF.app (DF.z) (bf_hb.mono hm0.size) hn3a
            have dj180 : Dj kl k3a := Dj.app (Dj.z) ol.le hn3a
            have dj181 : Dj (H12.size + 1) k3a := Dj.app (Dj.z) hS.lt hn3a
            have dj182 : Dj k0 k3a := Dj.app (Dj.z) o0.le hn3a
            have dj183 : Dj k1 k3a := Dj.app (Dj.z) o1.le hn3a
            have dj184 : Dj k2 k3a := Dj.app (Dj.z) o2.le hn3a
            have dj185 : Dj k3 k3a := Dj.app (Dj.z) o3.le hn3a
            have dj186 : Dj ko k3a := Dj.app (Dj.z) ow.le hn3a
            have df187 := DF.app (DF.z) (bf_hx.mono (by omega)) hn3a
            have nx188 : Nx 0 H0.size k3a := Nx.tr (Nx.refl 0 _) hn3a hm0.size
            have nx189 : Nx 0 H6.size k3a := Nx.tr (Nx.refl 0 _) hn3a hlm1.size
            replace hb := hb.nw hs55
            replace ol := ol.nw hs55
            replace hS := hS.nw hs55
            replace o0 := o0.nw hs55
            replace o1 := o1.nw hs55
            replace o2 := o2.nw hs55
            replace o3 := o3.nw hs55
            replace ow := ow.nw hs55
            replace hx := fun x hx_ => (hx x hx_).nw hs55
            replace hm0 := hm0.tr hs55
            replace hlm1 := hlm1.trN hs55
            have hz17 := hs55.size
            have hle_oba := oba.le
            have hle_ooa := ooa.le
            have hle_ota := ota.le
            -- call selvage/selvageref14.add
            refine LR.call rfl Try.call46 rfl (Wd.u rfl) rfl rfl (radd_p vo l 0 t1a t2a t3a ko k1a k2a k3a S3 S3 S3 w0 _ ow oba ooa ota (dj164) (dj175) (dj186) (hlk (by omega)) (by omega) (by omega)) (fun v56 H56 r56 => ?_)
            have ql190 := ol.le
            have ql191 := hS.lt
            have ql192 := o0.le
            have ql193 := o1.le
            have ql194 := o2.le
            have ql195 := o3.le
            have ql196 := ow.le
            have ql197 := oba.le
            have ql198 := ooa.le
            have ql199 := ota.le
            obtain ⟨v256, ko2, l2, rfl, ow, hk256, hl2, hs56⟩ := r56
            have df200 := DF.app (df18) (bf_hb.mono hm0.size) hk256
            have dj201 : Dj kl ko2 := Dj.app (dj19) ql190 hk256
            have dj202 : Dj (H12.size + 1) ko2 := Dj.app (dj31) ql191 hk256
            have dj203 : Dj k0 ko2 := Dj.app (dj32) ql192 hk256
            have dj204 : Dj k1 ko2 := Dj.app (dj33) ql193 hk256
            have dj205 : Dj k2 ko2 := Dj.app (dj34) ql194 hk256
            have dj206 : Dj k3 ko2 := Dj.app (dj35) ql195 hk256
            have df207 := DF.app (fgw) (bf_hx.mono (by omega)) hk256
            have dj208 : Dj k1a ko2 := Dj.app (dj164.symm) ql197 hk256
            have dj209 : Dj k2a ko2 := Dj.app (dj175.symm) ql198 hk256
            have dj210 : Dj k3a ko2 := Dj.app (dj186.symm) ql199 hk256
            have nx211 : Nx 0 H0.size ko2 := Nx.tr (nx20) hk256 hm0.size
            have nx212 : Nx 0 H6.size ko2 := Nx.tr (nx40) hk256 hlm1.size
            replace hb := hb.upL hs56 (DFL.cons df18 DFL.nil)
            replace ol := ol.upL hs56 (DL.cons dj19 DL.nil)
            replace hS := hS.upL hs56 (DL.cons dj31 DL.nil)
            replace o0 := o0.upL hs56 (DL.cons dj32 DL.nil)
            replace o1 := o1.upL hs56 (DL.cons dj33 DL.nil)
            replace o2 := o2.upL hs56 (DL.cons dj34 DL.nil)
            replace o3 := o3.upL hs56 (DL.cons dj35 DL.nil)
            replace hx := fun x hx_ => (hx x hx_).upL hs56 (DFL.cons fgw DFL.nil)
            replace oba := oba.upL hs56 (DL.cons dj164.symm DL.nil)
            replace ooa := ooa.upL hs56 (DL.cons dj175.symm DL.nil)
            replace ota := ota.upL hs56 (DL.cons dj186.symm DL.nil)
            replace hm0 := (Mo.trL (ks := []) (hm0.mdn []) hs56 (MIL.cons (MI.app MI.z (nx20) (Nat.le_refl _)) MIL.nil)).nil
            replace hlm1 := hlm1.trL hs56 (MIL.cons (MI.app MI.z (nx40) (Nat.le_refl _)) MIL.nil)
            have hz18 := hs56.size
            have hle_ow := ow.le
            refine LR.v (Y.assign rfl rfl) (Wd.u rfl) rfl rfl ?_
            refine LR.nil ?_
            refine hK26 _ _ ?_
            refine CW.seq (fun K28 hK28 hE28 => ?_)
            refine CW.region ?_
            refine LR.v (Y.move rfl rfl) (Wd.u rfl) rfl rfl ?_
            refine LR.v (Y.eql rfl rfl rfl) (Wd.u rfl) rfl rfl ?_
            refine LR.nil ?_
            refine hK28 _ _ ?_
            refine CW.condp rfl (fun c58 => ?_) (fun c58 => ?_)
            ·
              first
              | exfalso; omega
              | skip
                refine CW.seq (fun K29 hK29 hE29 => ?_)
                refine CW.region ?_
                refine LR.v (Y.move rfl rfl) (Wd.u rfl) rfl rfl ?_
                refine LR.v (Y.arrAddr hS.pt (1) rfl Try.runUnderlying71 Try.sizeOf32 rfl rfl (by first | rfl | omega) (by first | omega | (simp; omega) | (simp; done))) (Wd.u rfl) rfl rfl ?_
                refine LR.v (Y.load1 (hS.pt.drop 1) rfl Try.isAgg32 rfl) (Wd.u rfl) rfl rfl ?_
                refine LR.v (Y.arrAddr hS.pt (2) rfl Try.runUnderlying71 Try.sizeOf32 rfl rfl (by first | rfl | omega) (by first | omega | (simp; omega) | (simp; done))) (Wd.u rfl) rfl rfl ?_
                refine LR.v (Y.load1 (hS.pt.drop 2) rfl Try.isAgg32 rfl) (Wd.u rfl) rfl rfl ?_
                refine LR.v (Y.arrAddr hS.pt (3) rfl Try.runUnderlying71 Try.sizeOf32 rfl rfl (by first | rfl | omega) (by first | omega | (simp; omega) | (simp; done))) (Wd.u rfl) rfl rfl ?_
                refine LR.v (Y.load1 (hS.pt.drop 3) rfl Try.isAgg32 rfl) (Wd.u rfl) rfl rfl ?_
                refine LR.v (Y.build (v := .agg #[.int .i64 4, s1.v, s0.v, s2.v]) rfl rfl (by intro w; kernel_rfl)) (Wd.u rfl) rfl rfl ?_
                refine LR.z (Z.litw _ ([(⟨4, S1, S0, S2, s1, s0, s2⟩ : Ck)]) rfl inf50 rfl rfl rfl (by decide) (by decide) fK_len fK_one (rfl)) (Wd.u rfl) rfl rfl (fun v67 H67 r67 => ?_)
                obtain ⟨nw67, hs67, ob67, hH67⟩ := r67
                have hzs67 : H67.size = H56.size + 1 := by rw [hH67]; simp
                have df213 := (DF.new (bf_hb.mono hm0.size) : DF _ (H56.size + 1))
                have dj214 : Dj kl (H56.size + 1) := Dj.new ol.le
                have dj215 : Dj (H12.size + 1) (H56.size + 1) := Dj.new hS.lt
                have dj216 : Dj k0 (H56.size + 1) := Dj.new o0.le
                have dj217 : Dj k1 (H56.size + 1) := Dj.new o1.le
                have dj218 : Dj k2 (H56.size + 1) := Dj.new o2.le
                have dj219 : Dj k3 (H56.size + 1) := Dj.new o3.le
                have dj220 : Dj ko2 (H56.size + 1) := Dj.new ow.le
                have df221 := (DF.new (bf_hx.mono (by omega)) : DF _ (H56.size + 1))
                have dj222 : Dj k1a (H56.size + 1) := Dj.new oba.le
                have dj223 : Dj k2a (H56.size + 1) := Dj.new ooa.le
                have dj224 : Dj k3a (H56.size + 1) := Dj.new ota.le
                have nx225 : Nx 0 H0.size (H56.size + 1) := Nx.new hm0.size
                have nx226 : Nx 0 H6.size (H56.size + 1) := Nx.new hlm1.size
                replace hb := hb.nw hs67
                replace ol := ol.nw hs67
                replace hS := hS.nw hs67
                replace o0 := o0.nw hs67
                replace o1 := o1.nw hs67
                replace o2 := o2.nw hs67
                replace o3 := o3.nw hs67
                replace ow := ow.nw hs67
                replace hx := fun x hx_ => (hx x hx_).nw hs67
                replace oba := oba.nw hs67
                replace ooa := ooa.nw hs67
                replace ota := ota.nw hs67
                replace hm0 := hm0.tr hs67
                replace hlm1 := hlm1.trN hs67
                have hz19 := hs67.size
                refine LR.z (Z.apnd ow nw67.rd rfl inf50 rfl rfl (by simp; omega) (by simp; omega)) (Wd.u rfl) rfl rfl (fun v68 H68 r68 => ?_)
                obtain ⟨k68, ow, hk68, hs68⟩ := r68
                replace hk68 : Nx ko2 H67.size k68 := hk68
                replace hs68 := hs68.md
                have df227 := DF.app (df200) (bf_hb.mono hm0.size) hk68
                have dj228 : Dj kl k68 := Dj.app (dj201) ol.le hk68
                have dj229 : Dj (H12.size + 1) k68 := Dj.app (dj202) hS.lt hk68
                have dj230 : Dj k0 k68 := Dj.app (dj203) o0.le hk68
                have dj231 : Dj k1 k68 := Dj.app (dj204) o1.le hk68
                have dj232 : Dj k2 k68 := Dj.app (dj205) o2.le hk68
                have dj233 : Dj k3 k68 := Dj.app (dj206) o3.le hk68
                have df234 := DF.app (df207) (bf_hx.mono (by omega)) hk68
                have dj235 : Dj k1a k68 := Dj.app (dj208) oba.le hk68
                have dj236 : Dj k2a k68 := Dj.app (dj209) ooa.le hk68
                have dj237 : Dj k3a k68 := Dj.app (dj210) ota.le hk68
                have dj238 : Dj (H56.size + 1) k68 := Dj.app (dj220.symm) nw67.le hk68
                have nx239 : Nx 0 H0.size k68 := Nx.tr (nx211) hk68 hm0.size
                have nx240 : Nx 0 H6.size k68 := Nx.tr (nx212) hk68 hlm1.size
                replace hb := hb.upL hs68 (DFL.cons df200 DFL.nil)
                replace ol := ol.upL hs68 (DL.cons dj201 DL.nil)
                replace hS := hS.upL hs68 (DL.cons dj202 DL.nil)
                replace o0 := o0.upL hs68 (DL.cons dj203 DL.nil)
                replace o1 := o1.upL hs68 (DL.cons dj204 DL.nil)
                replace o2 := o2.upL hs68 (DL.cons dj205 DL.nil)
                replace o3 := o3.upL hs68 (DL.cons dj206 DL.nil)
                replace hx := fun x hx_ => (hx x hx_).upL hs68 (DFL.cons df207 DFL.nil)
                replace oba := oba.upL hs68 (DL.cons dj208 DL.nil)
                replace ooa := ooa.upL hs68 (DL.cons dj209 DL.nil)
                replace ota := ota.upL hs68 (DL.cons dj210 DL.nil)
                replace nw67 := nw67.upL hs68 (DL.cons dj220.symm DL.nil)
                replace hm0 := (Mo.trL (ks := []) (hm0.mdn []) hs68 (MIL.cons (MI.app MI.z (nx211) (Nat.le_refl _)) MIL.nil)).nil
                replace hlm1 := hlm1.trL hs68 (MIL.cons (MI.app MI.z (nx212) (Nat.le_refl _)) MIL.nil)
                have hz20 := hs68.size
                have hle_ow := ow.le
                refine LR.v (Y.assign rfl rfl) (Wd.u rfl) rfl rfl ?_
                refine LR.nil ?_
                refine hK29 _ _ ?_
                refine CW.region ?_
                refine LR.v (Y.build (v := .agg #[.slice none 0 0, .slice none 0 0, .slice none 0 0, .slice none 0 0]) rfl rfl (by intro w; kernel_rfl)) (Wd.u rfl) rfl rfl ?_
                refine LR.s (S.var hS (_) ([(⟨none, 0, 0⟩ : SV).v, (⟨none, 0, 0⟩ : SV).v, (⟨none, 0, 0⟩ : SV).v, (⟨none, 0, 0⟩ : SV).v]) rfl rfl rfl rfl (by decide) Try.sizeOf71 (rfl) (Nat.le_of_ble_eq_true rfl) (rfl)) (Wd.u rfl) rfl (fun H18_1 r18_1 => ?_)
                obtain ⟨hS, hs18_1⟩ := r18_1
                replace hs18_1 := hs18_1.md1
                replace hb := hb.upL hs18_1 (DFL.cons df3 DFL.nil)
                replace ol := ol.upL hs18_1 (DL.cons dj4 DL.nil)
                replace o0 := o0.upL hs18_1 (DL.cons dj21.symm DL.nil)
                replace o1 := o1.upL hs18_1 (DL.cons dj22.symm DL.nil)
                replace o2 := o2.upL hs18_1 (DL.cons dj24.symm DL.nil)
                replace o3 := o3.upL hs18_1 (DL.cons dj27.symm DL.nil)
                replace ow := ow.upL hs18_1 (DL.cons dj229.symm DL.nil)
                replace hx := fun x hx_ => (hx x hx_).upL hs18_1 (DFL.cons fgS DFL.nil)
                replace oba := oba.upL hs18_1 (DL.cons dj159.symm DL.nil)
                replace ooa := ooa.upL hs18_1 (DL.cons dj170.symm DL.nil)
                replace ota := ota.upL hs18_1 (DL.cons dj181.symm DL.nil)
                replace hm0 := (Mo.trL (ks := []) (hm0.mdn []) hs18_1 (MIL.cons (MI.app MI.z (nx5) (Nat.le_refl _)) MIL.nil)).nil
                replace hlm1 := hlm1.trL hs18_1 (MIL.cons (MI.app (MI.root (by simp)) (nx_hlm1_hS) (Nat.le_refl _)) MIL.nil)
                have hz21 := hs18_1.size
                refine LR.nil ?_
                refine hK13 _ _ ?_
                refine hK12 _ _ ?_
                refine CW.region ?_
                refine LR.v (Y.move rfl rfl) (Wd.u rfl) rfl rfl ?_
                refine LR.v (Y.addi rfl rfl rfl (by omega)) (Wd.u rfl) rfl rfl ?_
                refine LR.v (Y.assign rfl rfl) (Wd.u rfl) rfl rfl ?_
                refine LR.nil ?_
                obtain rfl : at_ = 2 := by omega
                have hgo := (prun_snoc ls i (by omega) _ hp).trans (pstp_go (k := 3) (by omega) (by show 3 = (2 + 1) % 4; rfl) (by rw [← hw24 (by omega)]; first | assumption | simpa using g42))
                refine QN.sub (hN9 (i + 1, ⟨none, 0, 0⟩, 0, [], ⟨none, 0, 0⟩, 0, [], ⟨none, 0, 0⟩, 0, [], ⟨none, 0, 0⟩, 0, [], v68, k68, l ++ [⟨4, S1, S0, S2, s1, s0, s2⟩], (fun b => G b ∨ b + 1 = k1 ∨ b + 1 = k0 ∨ b + 1 = k2), 3) _ ?_ ?_) ⟨rfl, rfl, rfl, (iv (by omega)), (iv (by omega)), trivial⟩
                · exact ⟨(by omega), hS, Ow.nil fS_len fS_one, Ow.nil fS_len fS_one, Ow.nil fS_len fS_one, Ow.nil fS_len fS_one, ow, snocR hx (fun b e => .inl e) ⟨o1.rd.imp (fun b _ e => .inr (.inl e)), o0.rd.imp (fun b _ e => .inr (.inr (.inl e))), o2.rd.imp (fun b _ e => .inr (.inr (.inr e)))⟩, BF.four (bf_hx.mono (by omega)) o1.le o0.le o2.le, DF.z, DF.z, DF.z, DF.z, DF.four (df234) (dj231.symm) (dj230.symm) (dj232.symm), DF.four (fgS) (dj22) (dj21) (dj24), (by rintro b (e | e | e | e); exact hGm b e; all_goals (unfold Nx at *; omega)), by rw [hgo]; simp [psM], (by simp only [List.length_append, List.length_singleton, List.length_nil]; omega), (fun _ => .inr (by rw [la_snoc]; show (4 : Int) ≠ 0; decide)), (.inl rfl), (.inl rfl), (.inl rfl), (.inl rfl), nx240, Dj.z, Dj.z, Dj.z, Dj.z, Dj.z, Dj.z, Dj.z, Dj.z, Dj.z, Dj.z, dj229, Dj.z2, Dj.z2, Dj.z2, Dj.z2, hlm1⟩
                · first | omega | (simp only; omega) | (simp; omega)
            ·
              first
              | exfalso; omega
              | skip
                refine CW.skip ?_
                refine hK13 _ _ ?_
                refine hK12 _ _ ?_
                refine CW.region ?_
                refine LR.v (Y.move rfl rfl) (Wd.u rfl) rfl rfl ?_
                refine LR.v (Y.addi rfl rfl rfl (by omega)) (Wd.u rfl) rfl rfl ?_
                refine LR.v (Y.assign rfl rfl) (Wd.u rfl) rfl rfl ?_
                refine LR.nil ?_
                obtain rfl : at_ = 3 := by omega
                have hgo := (prun_snoc ls i (by omega) _ hp).trans (pstp_go (k := 0) (by omega) (by show 0 = (3 + 1) % 4; rfl) (by rw [← hw24 (by omega)]; first | assumption | simpa using g42))
                refine QN.sub (hN9 (i + 1, s0, k0, S0, s1, k1, S1, s2, k2, S2, s3, k3, S3, v56, ko2, l2, (fun b => G b ∨ b + 1 = k1a ∨ b + 1 = k2a ∨ b + 1 = k3a), 0) _ ?_ ?_) ⟨rfl, rfl, rfl, (iv (by omega)), (iv (by omega)), trivial⟩
                · exact ⟨(by omega), hS, o0, o1, o2, o3, ow, snocIf hl2 hx (fun b e => .inl e) ⟨oba.rd.imp (fun b _ e => .inr (.inl e)), ooa.rd.imp (fun b _ e => .inr (.inr (.inl e))), ota.rd.imp (fun b _ e => .inr (.inr (.inr e)))⟩, BF.four (bf_hx.mono (by omega)) oba.le ooa.le ota.le, DF.four (fg0) (dj160) (dj171) (dj182), DF.four (fg1) (dj161) (dj172) (dj183), DF.four (fg2) (dj162) (dj173) (dj184), DF.four (fg3) (dj163) (dj174) (dj185), DF.four (df207) (dj208.symm) (dj209.symm) (dj210.symm), DF.four (fgS) (dj159) (dj170) (dj181), (by rintro b (e | e | e | e); exact hGm b e; all_goals (unfold Nx at *; omega)), by rw [hgo, hl2, plain_if]; simp [psM], (by have h1 := congrArg List.length hl2; have h2 : l2.length ≤ l.length + 1 := (by rw [h1]; split <;> simp); omega), (fun h => absurd h (by decide)), nx36, nx37, nx38, nx39, nx212, dj21, dj22, dj23, dj24, dj25, dj26, dj27, dj28, dj29, dj30, dj202, dj203, dj204, dj205, dj206, hlm1⟩
                · first | omega | (simp only; omega) | (simp; omega)
          ·
            refine CW.skip ?_
            refine hK26 _ _ ?_
            refine CW.seq (fun K30 hK30 hE30 => ?_)
            refine CW.region ?_
            refine LR.v (Y.move rfl rfl) (Wd.u rfl) rfl rfl ?_
            refine LR.v (Y.eql rfl rfl rfl) (Wd.u rfl) rfl rfl ?_
            refine LR.nil ?_
            refine hK30 _ _ ?_
            refine CW.condp rfl (fun c58 => ?_) (fun c58 => ?_)
            ·
              first
              | exfalso; omega
              | skip
                refine CW.seq (fun K31 hK31 hE31 => ?_)
                refine CW.region ?_
                refine LR.v (Y.move rfl rfl) (Wd.u rfl) rfl rfl ?_
                refine LR.v (Y.arrAddr hS.pt (1) rfl Try.runUnderlying71 Try.sizeOf32 rfl rfl (by first | rfl | omega) (by first | omega | (simp; omega) | (simp; done))) (Wd.u rfl) rfl rfl ?_
                refine LR.v (Y.load1 (hS.pt.drop 1) rfl Try.isAgg32 rfl) (Wd.u rfl) rfl rfl ?_
                refine LR.v (Y.arrAddr hS.pt (2) rfl Try.runUnderlying71 Try.sizeOf32 rfl rfl (by first | rfl | omega) (by first | omega | (simp; omega) | (simp; done))) (Wd.u rfl) rfl rfl ?_
                refine LR.v (Y.load1 (hS.pt.drop 2) rfl Try.isAgg32 rfl) (Wd.u rfl) rfl rfl ?_
                refine LR.v (Y.arrAddr hS.pt (3) rfl Try.runUnderlying71 Try.sizeOf32 rfl rfl (by first | rfl | omega) (by first | omega | (simp; omega) | (simp; done))) (Wd.u rfl) rfl rfl ?_
                refine LR.v (Y.load1 (hS.pt.drop 3) rfl Try.isAgg32 rfl) (Wd.u rfl) rfl rfl ?_
                refine LR.v (Y.build (v := .agg #[.int .i64 4, s1.v, s0.v, s2.v]) rfl rfl (by intro w; kernel_rfl)) (Wd.u rfl) rfl rfl ?_
                refine LR.z (Z.litw _ ([(⟨4, S1, S0, S2, s1, s0, s2⟩ : Ck)]) rfl inf50 rfl rfl rfl (by decide) (by decide) fK_len fK_one (rfl)) (Wd.u rfl) rfl rfl (fun v67 H67 r67 => ?_)
                obtain ⟨nw67, hs67, ob67, hH67⟩ := r67
                have hzs67 : H67.size = H24.size + 1 := by rw [hH67]; simp
                have df241 := (DF.new (bf_hb.mono hm0.size) : DF _ (H24.size + 1))
                have dj242 : Dj kl (H24.size + 1) := Dj.new ol.le
                have dj243 : Dj (H12.size + 1) (H24.size + 1) := Dj.new hS.lt
                have dj244 : Dj k0 (H24.size + 1) := Dj.new o0.le
                have dj245 : Dj k1 (H24.size + 1) := Dj.new o1.le
                have dj246 : Dj k2 (H24.size + 1) := Dj.new o2.le
                have dj247 : Dj k3 (H24.size + 1) := Dj.new o3.le
                have dj248 : Dj ko (H24.size + 1) := Dj.new ow.le
                have df249 := (DF.new (bf_hx.mono (by omega)) : DF _ (H24.size + 1))
                have nx250 : Nx 0 H0.size (H24.size + 1) := Nx.new hm0.size
                have nx251 : Nx 0 H6.size (H24.size + 1) := Nx.new hlm1.size
                replace hb := hb.nw hs67
                replace ol := ol.nw hs67
                replace hS := hS.nw hs67
                replace o0 := o0.nw hs67
                replace o1 := o1.nw hs67
                replace o2 := o2.nw hs67
                replace o3 := o3.nw hs67
                replace ow := ow.nw hs67
                replace hx := fun x hx_ => (hx x hx_).nw hs67
                replace hm0 := hm0.tr hs67
                replace hlm1 := hlm1.trN hs67
                have hz22 := hs67.size
                refine LR.z (Z.apnd ow nw67.rd rfl inf50 rfl rfl (by simp; omega) (by simp; omega)) (Wd.u rfl) rfl rfl (fun v68 H68 r68 => ?_)
                obtain ⟨k68, ow, hk68, hs68⟩ := r68
                replace hk68 : Nx ko H67.size k68 := hk68
                replace hs68 := hs68.md
                have df252 := DF.app (df18) (bf_hb.mono hm0.size) hk68
                have dj253 : Dj kl k68 := Dj.app (dj19) ol.le hk68
                have dj254 : Dj (H12.size + 1) k68 := Dj.app (dj31) hS.lt hk68
                have dj255 : Dj k0 k68 := Dj.app (dj32) o0.le hk68
                have dj256 : Dj k1 k68 := Dj.app (dj33) o1.le hk68
                have dj257 : Dj k2 k68 := Dj.app (dj34) o2.le hk68
                have dj258 : Dj k3 k68 := Dj.app (dj35) o3.le hk68
                have df259 := DF.app (fgw) (bf_hx.mono (by omega)) hk68
                have dj260 : Dj (H24.size + 1) k68 := Dj.app (dj248.symm) nw67.le hk68
                have nx261 : Nx 0 H0.size k68 := Nx.tr (nx20) hk68 hm0.size
                have nx262 : Nx 0 H6.size k68 := Nx.tr (nx40) hk68 hlm1.size
                replace hb := hb.upL hs68 (DFL.cons df18 DFL.nil)
                replace ol := ol.upL hs68 (DL.cons dj19 DL.nil)
                replace hS := hS.upL hs68 (DL.cons dj31 DL.nil)
                replace o0 := o0.upL hs68 (DL.cons dj32 DL.nil)
                replace o1 := o1.upL hs68 (DL.cons dj33 DL.nil)
                replace o2 := o2.upL hs68 (DL.cons dj34 DL.nil)
                replace o3 := o3.upL hs68 (DL.cons dj35 DL.nil)
                replace hx := fun x hx_ => (hx x hx_).upL hs68 (DFL.cons fgw DFL.nil)
                replace nw67 := nw67.upL hs68 (DL.cons dj248.symm DL.nil)
                replace hm0 := (Mo.trL (ks := []) (hm0.mdn []) hs68 (MIL.cons (MI.app MI.z (nx20) (Nat.le_refl _)) MIL.nil)).nil
                replace hlm1 := hlm1.trL hs68 (MIL.cons (MI.app MI.z (nx40) (Nat.le_refl _)) MIL.nil)
                have hz23 := hs68.size
                have hle_ow := ow.le
                refine LR.v (Y.assign rfl rfl) (Wd.u rfl) rfl rfl ?_
                refine LR.nil ?_
                refine hK31 _ _ ?_
                refine CW.region ?_
                refine LR.v (Y.build (v := .agg #[.slice none 0 0, .slice none 0 0, .slice none 0 0, .slice none 0 0]) rfl rfl (by intro w; kernel_rfl)) (Wd.u rfl) rfl rfl ?_
                refine LR.s (S.var hS (_) ([(⟨none, 0, 0⟩ : SV).v, (⟨none, 0, 0⟩ : SV).v, (⟨none, 0, 0⟩ : SV).v, (⟨none, 0, 0⟩ : SV).v]) rfl rfl rfl rfl (by decide) Try.sizeOf71 (rfl) (Nat.le_of_ble_eq_true rfl) (rfl)) (Wd.u rfl) rfl (fun H18_1 r18_1 => ?_)
                obtain ⟨hS, hs18_1⟩ := r18_1
                replace hs18_1 := hs18_1.md1
                replace hb := hb.upL hs18_1 (DFL.cons df3 DFL.nil)
                replace ol := ol.upL hs18_1 (DL.cons dj4 DL.nil)
                replace o0 := o0.upL hs18_1 (DL.cons dj21.symm DL.nil)
                replace o1 := o1.upL hs18_1 (DL.cons dj22.symm DL.nil)
                replace o2 := o2.upL hs18_1 (DL.cons dj24.symm DL.nil)
                replace o3 := o3.upL hs18_1 (DL.cons dj27.symm DL.nil)
                replace ow := ow.upL hs18_1 (DL.cons dj254.symm DL.nil)
                replace hx := fun x hx_ => (hx x hx_).upL hs18_1 (DFL.cons fgS DFL.nil)
                replace hm0 := (Mo.trL (ks := []) (hm0.mdn []) hs18_1 (MIL.cons (MI.app MI.z (nx5) (Nat.le_refl _)) MIL.nil)).nil
                replace hlm1 := hlm1.trL hs18_1 (MIL.cons (MI.app (MI.root (by simp)) (nx_hlm1_hS) (Nat.le_refl _)) MIL.nil)
                have hz24 := hs18_1.size
                refine LR.nil ?_
                refine hK13 _ _ ?_
                refine hK12 _ _ ?_
                refine CW.region ?_
                refine LR.v (Y.move rfl rfl) (Wd.u rfl) rfl rfl ?_
                refine LR.v (Y.addi rfl rfl rfl (by omega)) (Wd.u rfl) rfl rfl ?_
                refine LR.v (Y.assign rfl rfl) (Wd.u rfl) rfl rfl ?_
                refine LR.nil ?_
                obtain rfl : at_ = 2 := by omega
                have hgo := (prun_snoc ls i (by omega) _ hp).trans (pstp_go (k := 3) (by omega) (by show 3 = (2 + 1) % 4; rfl) (by rw [← hw24 (by omega)]; first | assumption | simpa using g42))
                refine QN.sub (hN9 (i + 1, ⟨none, 0, 0⟩, 0, [], ⟨none, 0, 0⟩, 0, [], ⟨none, 0, 0⟩, 0, [], ⟨none, 0, 0⟩, 0, [], v68, k68, l ++ [⟨4, S1, S0, S2, s1, s0, s2⟩], (fun b => G b ∨ b + 1 = k1 ∨ b + 1 = k0 ∨ b + 1 = k2), 3) _ ?_ ?_) ⟨rfl, rfl, rfl, (iv (by omega)), (iv (by omega)), trivial⟩
                · exact ⟨(by omega), hS, Ow.nil fS_len fS_one, Ow.nil fS_len fS_one, Ow.nil fS_len fS_one, Ow.nil fS_len fS_one, ow, snocR hx (fun b e => .inl e) ⟨o1.rd.imp (fun b _ e => .inr (.inl e)), o0.rd.imp (fun b _ e => .inr (.inr (.inl e))), o2.rd.imp (fun b _ e => .inr (.inr (.inr e)))⟩, BF.four (bf_hx.mono (by omega)) o1.le o0.le o2.le, DF.z, DF.z, DF.z, DF.z, DF.four (df259) (dj256.symm) (dj255.symm) (dj257.symm), DF.four (fgS) (dj22) (dj21) (dj24), (by rintro b (e | e | e | e); exact hGm b e; all_goals (unfold Nx at *; omega)), by rw [hgo]; simp [psM], (by simp only [List.length_append, List.length_singleton, List.length_nil]; omega), (fun _ => .inr (by rw [la_snoc]; show (4 : Int) ≠ 0; decide)), (.inl rfl), (.inl rfl), (.inl rfl), (.inl rfl), nx262, Dj.z, Dj.z, Dj.z, Dj.z, Dj.z, Dj.z, Dj.z, Dj.z, Dj.z, Dj.z, dj254, Dj.z2, Dj.z2, Dj.z2, Dj.z2, hlm1⟩
                · first | omega | (simp only; omega) | (simp; omega)
            ·
              first
              | exfalso; omega
              | skip
                refine CW.skip ?_
                refine hK13 _ _ ?_
                refine hK12 _ _ ?_
                refine CW.region ?_
                refine LR.v (Y.move rfl rfl) (Wd.u rfl) rfl rfl ?_
                refine LR.v (Y.addi rfl rfl rfl (by omega)) (Wd.u rfl) rfl rfl ?_
                refine LR.v (Y.assign rfl rfl) (Wd.u rfl) rfl rfl ?_
                refine LR.nil ?_
                obtain ⟨k, hk1, hk2⟩ : ∃ k : Nat, markL ls[i] = k ∧ (k = 1 ∨ k = 2) := ⟨(markL ls[i]).toNat, by omega, by omega⟩
                have hgo := (prun_snoc ls i (by omega) _ hp).trans (pstp_go (k := k) hk1 (by show k = (at_ + 1) % 4; omega) (by rw [← hw24 (by omega)]; first | assumption | simpa using g42))
                refine QN.sub (hN9 (i + 1, s0, k0, S0, s1, k1, S1, s2, k2, S2, s3, k3, S3, vo, ko, l, G, (markL ls[i]).toNat) _ ?_ ?_) ⟨rfl, rfl, rfl, (iv (by omega)), (iv (by omega)), trivial⟩
                · exact ⟨(by omega), hS, o0, o1, o2, o3, ow, hx, (bf_hx.mono (by omega)), fg0, fg1, fg2, fg3, fgw, fgS, (by omega), by have ha3 : at_ ≠ 3 := (by omega); rw [hgo, hk1]; rcases hk2 with rfl | rfl <;> simp [psM, ha3], (by omega), (fun h => by omega), nx36, nx37, nx38, nx39, nx40, dj21, dj22, dj23, dj24, dj25, dj26, dj27, dj28, dj29, dj30, dj31, dj32, dj33, dj34, dj35, hlm1⟩
                · first | omega | (simp only; omega) | (simp; omega)
  ·
    obtain rfl : i = ls.length := by omega
    rw [List.take_length] at hp
    obtain ⟨z0, z1, z2, z3, zl, hat⟩ := hsz
    have hpb : parseL b = pend (some (l.map Ck.c, S0, S1, S2, (if at_ = 3 then S3 else []), at_)) := by rw [parseL, hls, hp]
    refine CW.exit (hE10 (.exit 0) nofun _ _ (hE9 (.exit 0) nofun _ _ (hX8 _ _ ?_)))
    refine hK6 _ _ ?_
    refine CW.seq (fun K32 hK32 hE32 => ?_)
    refine CW.seq (fun K33 hK33 hE33 => ?_)
    refine CW.region ?_
    refine LR.v (Y.move rfl rfl) (Wd.u rfl) rfl rfl ?_
    refine LR.v (Y.neq rfl rfl rfl) (Wd.u rfl) rfl rfl ?_
    refine LR.nil ?_
    refine hK33 _ _ ?_
    refine CW.condp rfl (fun c71 => ?_) (fun c71 => ?_)
    ·
      refine CW.seq (fun K34 hK34 hE34 => ?_)
      refine CW.region ?_
      refine LR.v (Y.assign rfl rfl) (Wd.u rfl) rfl rfl ?_
      refine LR.v (Y.assign rfl rfl) (Wd.u rfl) rfl rfl ?_
      refine LR.nil ?_
      refine hK34 _ _ ?_
      refine CW.ret (hE32 .ret nofun _ _ (hret .ret (.inr rfl) _ _ _ (res2 rfl rfl rfl) ?_))
      exact ⟨.slice none 0 0, [], 25, rfl, by rw [hpb, pend, if_pos (show at_ ≠ 3 by omega)]; rfl, Rd.nil _ _ _ _, (fun x e => by cases e), hm0⟩
    ·
      refine CW.skip ?_
      refine hK32 _ _ ?_
      refine CW.seq (fun K35 hK35 hE35 => ?_)
      refine CW.region ?_
      refine LR.v (Y.move rfl rfl) (Wd.u rfl) rfl rfl ?_
      refine LR.v (Y.arrAddr hS.pt (0) rfl Try.runUnderlying71 Try.sizeOf32 rfl rfl (by first | rfl | omega) (by first | omega | (simp; omega) | (simp; done))) (Wd.u rfl) rfl rfl ?_
      refine LR.v (Y.load1 hS.pt rfl Try.isAgg32 rfl) (Wd.u rfl) rfl rfl ?_
      -- call selvage/selvageref14.plain
      refine LR.call rfl Try.call47 rfl (Wd.u rfl) rfl rfl (plain_ct s3.v S3 w0 _ o3.rd.any (by omega)) (fun v75 H75 r75 => ?_)
      obtain ⟨t1z, t2z, t3z, k1z, k2z, k3z, rfl, obz, ooz, otz, hn1z, hn2z, hn3z, d1275, d1375, d2375, hs75⟩ := r75
      have df263 := DF.app (DF.z) (bf_hb.mono hm0.size) hn1z
      have dj264 : Dj kl k1z := Dj.app (Dj.z) ol.le hn1z
      have dj265 : Dj (H12.size + 1) k1z := Dj.app (Dj.z) hS.lt hn1z
      have dj266 : Dj k0 k1z := Dj.app (Dj.z) o0.le hn1z
      have dj267 : Dj k1 k1z := Dj.app (Dj.z) o1.le hn1z
      have dj268 : Dj k2 k1z := Dj.app (Dj.z) o2.le hn1z
      have dj269 : Dj k3 k1z := Dj.app (Dj.z) o3.le hn1z
      have dj270 : Dj ko k1z := Dj.app (Dj.z) ow.le hn1z
      have df271 := DF.app (DF.z) (bf_hx.mono (by omega)) hn1z
      have nx272 : Nx 0 H0.size k1z := Nx.tr (Nx.refl 0 _) hn1z hm0.size
      have df273 := DF.app (DF.z) (bf_hb.mono hm0.size) hn2z
      have dj274 : Dj kl k2z := Dj.app (Dj.z) ol.le hn2z
      have dj275 : Dj (H12.size + 1) k2z := Dj.app (Dj.z) hS.lt hn2z
      have dj276 : Dj k0 k2z := Dj.app (Dj.z) o0.le hn2z
      have dj277 : Dj k1 k2z := Dj.app (Dj.z) o1.le hn2z
      have dj278 : Dj k2 k2z := Dj.app (Dj.z) o2.le hn2z
      have dj279 : Dj k3 k2z := Dj.app (Dj.z) o3.le hn2z
      have dj280 : Dj ko k2z := Dj.app (Dj.z) ow.le hn2z
      have df281 := DF.app (DF.z) (bf_hx.mono (by omega)) hn2z
      have nx282 : Nx 0 H0.size k2z := Nx.tr (Nx.refl 0 _) hn2z hm0.size
      have df283 := DF.app (DF.z) (bf_hb.mono hm0.size) hn3z
      have dj284 : Dj kl k3z := Dj.app (Dj.z) ol.le hn3z
      have dj285 : Dj (H12.size + 1) k3z := Dj.app (Dj.z) hS.lt hn3z
      have dj286 : Dj k0 k3z := Dj.app (Dj.z) o0.le hn3z
      have dj287 : Dj k1 k3z := Dj.app (Dj.z) o1.le hn3z
      have dj288 : Dj k2 k3z := Dj.app (Dj.z) o2.le hn3z
      have dj289 : Dj k3 k3z := Dj.app (Dj.z) o3.le hn3z
      have dj290 : Dj ko k3z := Dj.app (Dj.z) ow.le hn3z
      have df291 := DF.app (DF.z) (bf_hx.mono (by omega)) hn3z
      have nx292 : Nx 0 H0.size k3z := Nx.tr (Nx.refl 0 _) hn3z hm0.size
      replace hb := hb.nw hs75
      replace ol := ol.nw hs75
      replace hS := hS.nw hs75
      replace o0 := o0.nw hs75
      replace o1 := o1.nw hs75
      replace o2 := o2.nw hs75
      replace o3 := o3.nw hs75
      replace ow := ow.nw hs75
      replace hx := fun x hx_ => (hx x hx_).nw hs75
      replace hm0 := hm0.tr hs75
      have hz25 := hs75.size
      have hle_obz := obz.le
      have hle_ooz := ooz.le
      have hle_otz := otz.le
      -- call selvage/selvageref14.add
      refine LR.call rfl Try.call46 rfl (Wd.u rfl) rfl rfl (radd_p vo l 0 t1z t2z t3z ko k1z k2z k3z S3 S3 S3 w0 _ ow obz ooz otz (dj270) (dj280) (dj290) (hlk (by omega)) (by omega) (by omega)) (fun v76 H76 r76 => ?_)
      have ql293 := ol.le
      have ql294 := hS.lt
      have ql295 := o0.le
      have ql296 := o1.le
      have ql297 := o2.le
      have ql298 := o3.le
      have ql299 := ow.le
      have ql300 := obz.le
      have ql301 := ooz.le
      have ql302 := otz.le
      obtain ⟨v276, ko2, l2, rfl, ow, hk276, hl2, hs76⟩ := r76
      have df303 := DF.app (df18) (bf_hb.mono hm0.size) hk276
      have dj304 : Dj kl ko2 := Dj.app (dj19) ql293 hk276
      have dj305 : Dj (H12.size + 1) ko2 := Dj.app (dj31) ql294 hk276
      have dj306 : Dj k0 ko2 := Dj.app (dj32) ql295 hk276
      have dj307 : Dj k1 ko2 := Dj.app (dj33) ql296 hk276
      have dj308 : Dj k2 ko2 := Dj.app (dj34) ql297 hk276
      have dj309 : Dj k3 ko2 := Dj.app (dj35) ql298 hk276
      have df310 := DF.app (fgw) (bf_hx.mono (by omega)) hk276
      have dj311 : Dj k1z ko2 := Dj.app (dj270.symm) ql300 hk276
      have dj312 : Dj k2z ko2 := Dj.app (dj280.symm) ql301 hk276
      have dj313 : Dj k3z ko2 := Dj.app (dj290.symm) ql302 hk276
      have nx314 : Nx 0 H0.size ko2 := Nx.tr (nx20) hk276 hm0.size
      replace hb := hb.upL hs76 (DFL.cons df18 DFL.nil)
      replace ol := ol.upL hs76 (DL.cons dj19 DL.nil)
      replace hS := hS.upL hs76 (DL.cons dj31 DL.nil)
      replace o0 := o0.upL hs76 (DL.cons dj32 DL.nil)
      replace o1 := o1.upL hs76 (DL.cons dj33 DL.nil)
      replace o2 := o2.upL hs76 (DL.cons dj34 DL.nil)
      replace o3 := o3.upL hs76 (DL.cons dj35 DL.nil)
      replace hx := fun x hx_ => (hx x hx_).upL hs76 (DFL.cons fgw DFL.nil)
      replace obz := obz.upL hs76 (DL.cons dj270.symm DL.nil)
      replace ooz := ooz.upL hs76 (DL.cons dj280.symm DL.nil)
      replace otz := otz.upL hs76 (DL.cons dj290.symm DL.nil)
      replace hm0 := (Mo.trL (ks := []) (hm0.mdn []) hs76 (MIL.cons (MI.app MI.z (nx20) (Nat.le_refl _)) MIL.nil)).nil
      have hz26 := hs76.size
      have hle_ow := ow.le
      refine LR.v (Y.assign rfl rfl) (Wd.u rfl) rfl rfl ?_
      refine LR.v (Y.assign rfl rfl) (Wd.u rfl) rfl rfl ?_
      refine LR.nil ?_
      refine hK35 _ _ ?_
      refine CW.ret (hret .ret (.inr rfl) _ _ _ (res2 rfl rfl rfl) ?_)
      exact ⟨v76, l2, 0, rfl, by rw [hpb, hl2, plain_if]; obtain rfl : at_ = 3 := (by omega); rfl, ow.rd.imp (fun b _ e => by have := (nx314); unfold Nx at this; omega), snocIf hl2 (fun y e => (hx y e).imp (fun b _ e => hGm b e)) (fun b e => e) ⟨obz.rd.imp (fun b _ e => by unfold Nx at *; omega), ooz.rd.imp (fun b _ e => by unfold Nx at *; omega), otz.rd.imp (fun b _ e => by unfold Nx at *; omega)⟩, hm0⟩

end Go.Proofs.Ytegfnfhdgbcjbaa.MerN
