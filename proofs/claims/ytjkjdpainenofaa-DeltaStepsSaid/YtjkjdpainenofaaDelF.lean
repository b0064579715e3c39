/-
  A delta applied, by the program.
-/
import Derived.Test.YtjkjdpainenofaaDelE
namespace Go.Proofs.Ytjkjdpainenofaa.DelF
open Go.Proofs.Ytjkjdpainenofaa.E Go.RowKit Go.Proofs.Ytjkjdpainenofaa.Num Go.Proofs.Ytjkjdpainenofaa.DelA Go.Proofs.Ytjkjdpainenofaa.DelB Go.Proofs.Ytjkjdpainenofaa.DelC Go.Proofs.Ytjkjdpainenofaa.DelD Go.Proofs.Ytjkjdpainenofaa.DelE
set_option linter.unusedVariables false
set_option linter.unusedSimpArgs false
set_option linter.unusedSectionVars false
theorem inf22 : Inf Try.prog 22 5 1 1 := ⟨Try.underlying22, _, _, rfl, rfl, rfl, rfl, rfl⟩

theorem bsel {b : Bool} (h : b = true → False) : b = false := by cases b with | false => rfl | true => exact (h rfl).elim
theorem apf_i12 {base out t : List UInt8} {size : Nat} (h : t.length < 4 ∨ (4 ≤ t.length ∧ bev 0 (t.take 4) > t.length - 4)) : apf base size out (2 :: t) = ([], 14) := by
  rcases h with h | ⟨h1, h2⟩
  · exact apf_i1 h
  · exact apf_i2 (by omega) h2
theorem two {d r1 r2 : List UInt8} {m1 m2 : Nat} {c1 c2 : Bool} (a1 : c1 = false → false = false ∧ 4 ≤ d.length ∧ m1 = bev 0 (d.take 4) ∧ r1 = d.drop 4) (a2 : c1 = true → (false = true ∨ d.length < 4) ∧ m1 = 0 ∧ r1 = d)
    (b1 : c2 = false → c1 = false ∧ 4 ≤ r1.length ∧ m2 = bev 0 (r1.take 4) ∧ r2 = r1.drop 4) (b2 : c2 = true → (c1 = true ∨ r1.length < 4) ∧ m2 = 0 ∧ r2 = r1) :
    (c2 = true → d.length < 8) ∧ (c2 = false → 8 ≤ d.length ∧ bev 0 (d.take 4) = m1 ∧ bev 0 (slc d 4 4) = m2 ∧ r2 = d.drop 8) := by
  refine ⟨fun h => ?_, fun h => ?_⟩
  · obtain ⟨h1, _, _⟩ := b2 h
    cases c1 with
    | true => obtain ⟨h2, _, _⟩ := a2 rfl; simp at h2; omega
    | false => obtain ⟨_, h2, h3, h4⟩ := a1 rfl; subst h4; simp at h1; omega
  · obtain ⟨h1, h2, h3, h4⟩ := b1 h
    obtain ⟨_, h5, h6, h7⟩ := a1 h1
    subst h7
    simp only [List.length_drop] at h2
    exact ⟨by omega, h6.symm, by rw [h3]; rfl, by rw [h4, List.drop_drop]⟩
theorem numtake {d r1 r2 tk : List UInt8} {m : Nat} {c1 c2 : Bool} (a1 : c1 = false → false = false ∧ 4 ≤ d.length ∧ m = bev 0 (d.take 4) ∧ r1 = d.drop 4) (a2 : c1 = true → (false = true ∨ d.length < 4) ∧ m = 0 ∧ r1 = d)
    (b1 : c2 = false → c1 = false ∧ m ≤ r1.length ∧ tk = r1.take m ∧ r2 = r1.drop m) (b2 : c2 = true → (c1 = true ∨ r1.length < m) ∧ tk = [] ∧ r2 = r1) :
    (c2 = true → d.length < 4 ∨ (4 ≤ d.length ∧ bev 0 (d.take 4) > d.length - 4)) ∧ (c2 = false → 4 ≤ d.length ∧ bev 0 (d.take 4) = m ∧ m ≤ d.length - 4 ∧ tk = slc d 4 m ∧ r2 = d.drop (4 + m)) := by
  refine ⟨fun h => ?_, fun h => ?_⟩
  · obtain ⟨h1, _, _⟩ := b2 h
    cases c1 with
    | true => obtain ⟨h2, _, _⟩ := a2 rfl; simp at h2; omega
    | false => obtain ⟨_, h2, h3, h4⟩ := a1 rfl; subst h4; simp at h1; omega
  · obtain ⟨h1, h2, h3, h4⟩ := b1 h
    obtain ⟨_, h5, h6, h7⟩ := a1 h1
    subst h7
    simp only [List.length_drop] at h2
    exact ⟨by omega, h6.symm, by omega, by rw [h3]; rfl, by rw [h4, List.drop_drop]⟩

set_option maxHeartbeats 4000000 in
theorem apply_ct (v1 v2 : Value) (bs d : List UInt8) (w0 : World) (H0 : Heap)
    (hb : RdT H0 fB 1 v1 bs) (hd : RdT H0 fB 1 v2 d) (hbl : bs.length ≤ 1048576) (hdl : d.length ≤ 1048576) :
    Ct Try.prog w0 8 #[v1, v2] H0 (fun r H2 => ∃ v : Value, ∃ k : Nat, ∃ x : List UInt8, ∃ e : Int, r = .tuple #[v, .int .i64 e] ∧ (Qr k H2 fB 1 v x) ∧ (Nx 0 H0.size k) ∧ (apt bs d = (x, e)) ∧ Nw H0 H2) := by
  refine Ct.enter (args := [v1, v2]) Try.func8 rfl rfl rfl ?_
  intro Q0 hret
  have hm0 : Nw H0 H0 := Mo.refl _ _
  replace hb := hb.bnd
  have bf_hb := Rd.bf hb
  replace hd := hd.bnd
  have bf_hd := Rd.bf hd
  refine CW.seq (fun K1 hK1 hE1 => ?_)
  refine CW.region ?_
  refine LR.v (Y.assign rfl rfl) (Wd.u rfl) rfl rfl ?_
  refine LR.v (Y.assign rfl rfl) (Wd.u rfl) rfl rfl ?_
  refine LR.nil ?_
  refine hK1 _ _ ?_
  refine CW.scope (fun K2 hK2 hE2 => ?_)
  refine CW.seq (fun K3 hK3 hE3 => ?_)
  refine CW.region ?_
  refine LR.v (Y.move rfl rfl) (Wd.u rfl) rfl rfl ?_
  refine LR.v (Y.build (v := .agg #[v2, .bool false]) rfl rfl (by intro w; obtain ⟨a2, cp2, rfl, _⟩ := hd.ex; kernel_rfl)) (Wd.u rfl) rfl rfl ?_
  refine LR.z (Z.boxv rfl rfl) (Wd.u rfl) rfl rfl (fun v15 H15 r15 => ?_)
  obtain ⟨rfl, hc, hs15, ob15, hH15⟩ := r15
  have hzs15 : H15.size = H0.size + 1 := by rw [hH15]; simp
  have df1 := (DF.new (bf_hb.mono hm0.size) : DF _ (H0.size + 1))
  have df2 := (DF.new (bf_hd.mono hm0.size) : DF _ (H0.size + 1))
  have nx3 : Nx 0 H0.size (H0.size + 1) := Nx.new hm0.size
  replace hb := hb.nw hs15
  replace hd := hd.nw hs15
  replace hm0 := hm0.tr hs15
  have hz1 := hs15.size
  replace hc : Var 39 H15 H0.size ([v2, .bool false]) := hc
  have hcd := hd
  have bf_hcd := bf_hd
  refine LR.v (Y.assign rfl rfl) (Wd.u rfl) rfl rfl ?_
  refine LR.nil ?_
  refine hK3 _ _ ?_
  refine CW.seq (fun K4 hK4 hE4 => ?_)
  refine CW.region ?_
  refine LR.v (Y.move rfl rfl) (Wd.u rfl) rfl rfl ?_
  -- call (*selvage/delta.cursor).number
  refine LR.call rfl Try.call13 rfl (Wd.u rfl) rfl rfl (cnum_ct H0.size _ v2 d false w0 _ hc hcd (bf_hcd.mono hm0.size) (df2)) (fun v17 H17 r17 => ?_)
  obtain ⟨sv1, m1, r1, cr1, rfl, hc, hcd, hm4r1, hk1r1, hk2r1, hs17⟩ := r17
  replace hb := hb.upL hs17 (DFL.cons df1 DFL.nil)
  replace hd := hd.upL hs17 (DFL.cons df2 DFL.nil)
  replace hm0 := (Mo.trL (ks := []) (hm0.mdn []) hs17 (MIL.cons (MI.app MI.z (nx3) (Nat.le_refl _)) MIL.nil)).nil
  have hz2 := hs17.size
  have bf_hcd := bf_hcd
  refine LR.v (Y.move rfl rfl) (Wd.u rfl) rfl rfl ?_
  -- call (*selvage/delta.cursor).number
  refine LR.call rfl Try.call13 rfl (Wd.u rfl) rfl rfl (cnum_ct H0.size _ sv1 r1 cr1 w0 _ hc hcd (bf_hcd.mono hm0.size) (df2)) (fun v19 H19 r19 => ?_)
  obtain ⟨sv2, size, r2, cr2, rfl, hc, hcd, hm4r2, hk1r2, hk2r2, hs19⟩ := r19
  replace hb := hb.upL hs19 (DFL.cons df1 DFL.nil)
  replace hd := hd.upL hs19 (DFL.cons df2 DFL.nil)
  replace hm0 := (Mo.trL (ks := []) (hm0.mdn []) hs19 (MIL.cons (MI.app MI.z (nx3) (Nat.le_refl _)) MIL.nil)).nil
  have hz3 := hs19.size
  have bf_hcd := bf_hcd
  obtain ⟨hTc, hFc⟩ := two hk1r1 hk2r1 hk1r2 hk2r2
  refine LR.v (Y.assign rfl rfl) (Wd.u rfl) rfl rfl ?_
  refine LR.v (Y.assign rfl rfl) (Wd.u rfl) rfl rfl ?_
  refine LR.nil ?_
  refine hK4 _ _ ?_
  refine CW.seq (fun K5 hK5 hE5 => ?_)
  refine CW.block (fun K6 hK6 hX6 hE6 => ?_)
  refine CW.seq (fun K7 hK7 hE7 => ?_)
  refine CW.region ?_
  refine LR.v (Y.move rfl rfl) (Wd.u rfl) rfl rfl ?_
  refine LR.v (Y.nilCheck rfl rfl) (Wd.u rfl) rfl rfl ?_
  refine LR.v (Y.fieldAddr hc.pt rfl Try.runUnderlying39 rfl rfl Try.sizeOf4 (by decide) rfl) (Wd.u rfl) rfl rfl ?_
  refine LR.v (Y.load1 (hc.pt.drop 1) rfl Try.isAgg4 rfl) (Wd.u rfl) rfl rfl ?_
  refine LR.v (Y.assign rfl rfl) (Wd.u rfl) rfl rfl ?_
  refine LR.nil ?_
  refine hK7 _ _ ?_
  refine CW.cond rfl (fun c20 => ?_) (fun c20 => ?_)
  ·
    have hlt := hTc c20
    refine CW.seq (fun K8 hK8 hE8 => ?_)
    refine CW.region ?_
    refine LR.v (Y.assign rfl rfl) (Wd.u rfl) rfl rfl ?_
    refine LR.v (Y.assign rfl rfl) (Wd.u rfl) rfl rfl ?_
    refine LR.nil ?_
    refine hK8 _ _ ?_
    refine CW.ret (hE6 .ret nofun (by simp) _ _ (hE5 .ret nofun _ _ (hE2 .ret nofun nofun _ _ (hret .ret (.inr rfl) _ _ _ (res2 rfl rfl rfl) ?_))))
    exact ⟨_, 0, [], 14, rfl, Qr.nil _ _ _, Nx.refl _ _, apt_cut hlt, hm0⟩
  ·
    subst c20
    obtain ⟨hF8, hA0, hB0, rfl⟩ := hFc rfl
    refine CW.seq (fun K9 hK9 hE9 => ?_)
    refine CW.region ?_
    refine LR.v (Y.move rfl rfl) (Wd.u rfl) rfl rfl ?_
    refine LR.v (Y.move rfl rfl) (Wd.u rfl) rfl rfl ?_
    refine LR.v (Y.len hb rfl Try.runUnderlying22 rfl) (Wd.u rfl) rfl rfl ?_
    refine LR.v (Y.neq rfl rfl rfl) (Wd.u rfl) rfl rfl ?_
    refine LR.v (Y.assign rfl rfl) (Wd.u rfl) rfl rfl ?_
    refine LR.nil ?_
    refine hK9 _ _ ?_
    refine CW.condp rfl (fun c25 => ?_) (fun c25 => ?_)
    ·
      refine CW.seq (fun K10 hK10 hE10 => ?_)
      refine CW.region ?_
      refine LR.v (Y.assign rfl rfl) (Wd.u rfl) rfl rfl ?_
      refine LR.v (Y.assign rfl rfl) (Wd.u rfl) rfl rfl ?_
      refine LR.nil ?_
      refine hK10 _ _ ?_
      refine CW.ret (hE6 .ret nofun (by simp) _ _ (hE5 .ret nofun _ _ (hE2 .ret nofun nofun _ _ (hret .ret (.inr rfl) _ _ _ (res2 rfl rfl rfl) ?_))))
      exact ⟨_, 0, [], 1, rfl, Qr.nil _ _ _, Nx.refl _ _, apt_arg (by omega) (by omega), hm0⟩
    ·
      have hgo := apt_go (base := bs) (t := d) (by omega) (by omega)
      rw [hB0] at hgo
      refine CW.skip ?_
      refine hK6 _ _ ?_
      refine hK5 _ _ ?_
      refine CW.seq (fun K11 hK11 hE11 => ?_)
      refine CW.region ?_
      refine LR.v (Y.assign rfl rfl) (Wd.u rfl) rfl rfl ?_
      refine LR.nil ?_
      refine hK11 _ _ ?_
      refine CW.seq (fun K12 hK12 hE12 => ?_)
      refine CW.label ?_
      refine hK12 _ _ ?_
      refine CW.seq (fun K13 hK13 hE13 => ?_)
      refine CW.block (fun K14 hK14 hX14 hE14 => ?_)
      refine CW.loop (fun (s_ : (Value) × (Nat) × (List UInt8) × (Value) × (List UInt8)) => match s_ with | (vo, ko, out, sv, rr) => [(0, v1), (6, .pointer (some ⟨H0.size, 0, none⟩)), (8, .int .i64 size), (9, vo)])
        (fun (s_ : (Value) × (Nat) × (List UInt8) × (Value) × (List UInt8)) (H : Heap) => match s_ with | (vo, ko, out, sv, rr) => (Ow ko 5 H fB 1 vo out) ∧ (Var 39 H H0.size [sv, .bool false]) ∧ (Rd (fun b => True ∧ b < H0.size) H fB 1 sv rr) ∧ (rr.length ≤ d.length) ∧ (out.length ≤ size) ∧ (apf bs size out rr = apt bs d) ∧ (Nx 0 H19.size ko) ∧ (Dj ko (H0.size + 1)) ∧ Mo (Ms [(H0.size + 1)]) H19 H)
        (fun (s_ : (Value) × (Nat) × (List UInt8) × (Value) × (List UInt8)) => match s_ with | (vo, ko, out, sv, rr) => rr.length) (.slice none 0 0, 0, [], sv2, d.drop 8) ⟨rfl, rfl, rfl, rfl, trivial⟩ ?_ ?_
      ·
        exact ⟨Ow.nil fB_len fB_one, hc, hcd, (by simp), (Nat.zero_le _), hgo.symm, Nx.refl _ _, Dj.z2, Mo.refl _ _⟩
      rintro ⟨vo, ko, out, sv, rr⟩ HL1 hI1 K15 hN15 hE15
      obtain ⟨ow9, hc, hcd, hrl, hol, hap, nxl_ow9, dj_ow9_hc, hlm1⟩ := hI1
      have df4 := DF.app (DF.z) (bf_hb.mono hm0.size) nxl_ow9
      have df5 := DF.app (DF.z) (bf_hd.mono hm0.size) nxl_ow9
      have df6 := DF.app (DF.z) (bf_hcd.mono hm0.size) nxl_ow9
      have nx7 : Nx 0 H0.size ko := Nx.tr (Nx.refl 0 _) nxl_ow9 hm0.size
      replace hb := hb.upL hlm1 (DFL.cons df1 DFL.nil)
      replace hd := hd.upL hlm1 (DFL.cons df2 DFL.nil)
      replace hm0 := (Mo.trL (ks := []) (hm0.mdn []) hlm1 (MIL.cons (MI.app MI.z (nx3) (Nat.le_refl _)) MIL.nil)).nil
      have hz4 := hlm1.size
      have hle_ow9 := ow9.le
      have dj8 := dj_ow9_hc
      have nx9 := nxl_ow9
      have nx_hlm1_hc := Nx.refl (H0.size + 1) H19.size
      refine CW.block (fun K16 hK16 hX16 hE16 => ?_)
      refine CW.seq (fun K17 hK17 hE17 => ?_)
      refine CW.seq (fun K18 hK18 hE18 => ?_)
      refine CW.region ?_
      refine LR.v (Y.move rfl rfl) (Wd.u rfl) rfl rfl ?_
      refine LR.v (Y.nilCheck rfl rfl) (Wd.u rfl) rfl rfl ?_
      refine LR.v (Y.fieldAddr hc.pt rfl Try.runUnderlying39 rfl rfl Try.sizeOf22 (by decide) rfl) (Wd.u rfl) rfl rfl ?_
      refine LR.v (Y.load1 hc.pt rfl Try.isAgg22 rfl) (Wd.u rfl) rfl rfl ?_
      refine LR.v (Y.len hcd rfl Try.runUnderlying22 rfl) (Wd.u rfl) rfl rfl ?_
      refine LR.v (Y.eql rfl rfl rfl) (Wd.u rfl) rfl rfl ?_
      refine LR.nil ?_
      refine hK18 _ _ ?_
      refine CW.condp rfl (fun c35 => ?_) (fun c35 => ?_)
      ·
        obtain rfl : rr = [] := List.eq_nil_of_length_eq_zero (by omega)
        rw [apf_nil] at hap
        refine CW.exit (hE17 (.exit 1) nofun _ _ (hE16 (.exit 1) nofun (by simp) _ _ (hE15 (.exit 1) nofun _ _ (hX14 _ _ ?_))))
        refine hK13 _ _ ?_
        refine CW.seq (fun K19 hK19 hE19 => ?_)
        refine CW.seq (fun K20 hK20 hE20 => ?_)
        refine CW.region ?_
        refine LR.v (Y.move rfl rfl) (Wd.u rfl) rfl rfl ?_
        refine LR.v (Y.len ow9.rd rfl Try.runUnderlying22 rfl) (Wd.u rfl) rfl rfl ?_
        refine LR.v (Y.move rfl rfl) (Wd.u rfl) rfl rfl ?_
        refine LR.v (Y.neq rfl rfl rfl) (Wd.u rfl) rfl rfl ?_
        refine LR.nil ?_
        refine hK20 _ _ ?_
        refine CW.condp rfl (fun c108 => ?_) (fun c108 => ?_)
        ·
          refine CW.seq (fun K21 hK21 hE21 => ?_)
          refine CW.region ?_
          refine LR.v (Y.assign rfl rfl) (Wd.u rfl) rfl rfl ?_
          refine LR.v (Y.assign rfl rfl) (Wd.u rfl) rfl rfl ?_
          refine LR.nil ?_
          refine hK21 _ _ ?_
          refine CW.ret (hE19 .ret nofun _ _ (hE2 .ret nofun nofun _ _ (hret .ret (.inr rfl) _ _ _ (res2 rfl rfl rfl) ?_)))
          exact ⟨_, 0, [], _, rfl, Qr.nil _ _ _, Nx.refl _ _, by first | (rw [← hap, apf_i12 (hT c86)]; done) | (rw [← hap, apf_c1 (by omega)]; done) | (rw [← hap, apf_c2 (by omega) (by rw [hA, hB]; unfold bad1; omega)]; done) | (rw [← hap, apf_i1 (by omega)]; done) | (rw [← hap, apf_i2 (by omega) (by omega)]; done) | (rw [← hap, apf_i3 (by omega) (by rw [hB]; omega) (by rw [hB]; omega)]; done) | (rw [← hap, apf_o (fun e => c40 (by rw [e]; rfl)) (fun e => c79 (by rw [e]; rfl))]; done) | (rw [← hap, if_neg (by omega)]; done), hm0⟩
        ·
          refine CW.skip ?_
          refine hK19 _ _ ?_
          refine CW.seq (fun K22 hK22 hE22 => ?_)
          refine CW.region ?_
          refine LR.v (Y.move rfl rfl) (Wd.u rfl) rfl rfl ?_
          -- call slices.Clip[[]byte,byte]
          refine LR.call rfl Try.call15 rfl (Wd.u rfl) rfl rfl (clip_ct ko vo out w0 _ ow9.q) (fun v110 H110 r110 => ?_)
          obtain ⟨v2110, rfl, hq110, hs110⟩ := r110
          replace hb := hb.nw hs110
          replace hd := hd.nw hs110
          replace hcd := hcd.nw hs110
          replace hc := hc.nw hs110
          replace ow9 := ow9.nw hs110
          replace hm0 := hm0.tr hs110
          have hz5 := hs110.size
          refine LR.v (Y.assign rfl rfl) (Wd.u rfl) rfl rfl ?_
          refine LR.v (Y.assign rfl rfl) (Wd.u rfl) rfl rfl ?_
          refine LR.nil ?_
          refine hK22 _ _ ?_
          refine CW.ret (hE2 .ret nofun nofun _ _ (hret .ret (.inr rfl) _ _ _ (res2 rfl rfl rfl) ?_))
          exact ⟨_, ko, out, 0, rfl, hq110, nx7, by rw [← hap, if_pos (by omega)], hm0⟩
      ·
        obtain ⟨x, t, rfl⟩ : ∃ x t, rr = x :: t := by
          cases rr with
          | nil => exact absurd rfl c35
          | cons x t => exact ⟨x, t, rfl⟩
        simp only [List.length_cons] at hrl
        refine CW.skip ?_
        refine hK17 _ _ ?_
        refine CW.seq (fun K23 hK23 hE23 => ?_)
        refine CW.region ?_
        refine LR.v (Y.assign rfl rfl) (Wd.u rfl) rfl rfl ?_
        refine LR.nil ?_
        refine hK23 _ _ ?_
        refine CW.seq (fun K24 hK24 hE24 => ?_)
        refine CW.region ?_
        refine LR.v (Y.assign rfl rfl) (Wd.u rfl) rfl rfl ?_
        refine LR.nil ?_
        refine hK24 _ _ ?_
        refine CW.seq (fun K25 hK25 hE25 => ?_)
        refine CW.seq (fun K26 hK26 hE26 => ?_)
        refine CW.region ?_
        refine LR.v (Y.move rfl rfl) (Wd.u rfl) rfl rfl ?_
        -- call (*selvage/delta.cursor).take
        refine LR.call rfl Try.call14 rfl (Wd.u rfl) rfl rfl (take_ct H0.size _ sv (x :: t) false 1 w0 _ hc hcd (bf_hcd.mono hm0.size) (df2) (by omega)) (fun v37 H37 r37 => ?_)
        obtain ⟨v37, sva, tk1, ra, ca, rfl, hc, hcd, ht1, hk1a, hk2a, hs37⟩ := r37
        replace hb := hb.upL hs37 (DFL.cons df1 DFL.nil)
        replace hd := hd.upL hs37 (DFL.cons df2 DFL.nil)
        replace ow9 := ow9.upL hs37 (DL.cons dj8 DL.nil)
        replace hm0 := (Mo.trL (ks := []) (hm0.mdn []) hs37 (MIL.cons (MI.app MI.z (nx3) (Nat.le_refl _)) MIL.nil)).nil
        replace hlm1 := hlm1.trL hs37 (MIL.cons (MI.app (MI.root (by simp)) (nx_hlm1_hc) (Nat.le_refl _)) MIL.nil)
        have hz6 := hs37.size
        have bf_hcd := bf_hcd
        have bf_ht1 := bf_hcd
        obtain rfl : ca = false := bsel (fun h => by obtain ⟨h1, _, _⟩ := hk2a h; simp at h1)
        obtain ⟨_, _, h3, h4⟩ := hk1a rfl
        simp only [List.take_succ_cons, List.take_zero, List.drop_succ_cons, List.drop_zero] at h3 h4
        subst h3
        obtain rfl := h4.symm
        refine LR.e (g := fun ad => .pointer (some ad)) (Y.indexAddr ht1 (0) rfl Try.runUnderlying22 Try.sizeOf5 rfl rfl (by first | rfl | omega) (by simp)) (Wd.u rfl) rfl rfl (fun ad38 pt38 => ?_)
        refine LR.v (Y.cast (v2 := .int .u8 x.toNat) (Y.load1 pt38 rfl Try.isAgg5 rfl) (rfl)) (Wd.u rfl) rfl rfl ?_
        refine LR.nil ?_
        refine hK26 _ _ ?_
        refine CW.block (fun K27 hK27 hX27 hE27 => ?_)
        refine CW.seq (fun K28 hK28 hE28 => ?_)
        refine CW.region ?_
        refine LR.v (Y.eql rfl rfl rfl) (Wd.u rfl) rfl rfl ?_
        refine LR.v (Y.assign rfl rfl) (Wd.u rfl) rfl rfl ?_
        refine LR.nil ?_
        refine hK28 _ _ ?_
        refine CW.condp rfl (fun c40 => ?_) (fun c40 => ?_)
        ·
          rw [show x = 1 from u8n (n := 1) (by decide) (by omega)] at hap
          refine CW.seq (fun K29 hK29 hE29 => ?_)
          refine CW.region ?_
          refine LR.v (Y.move rfl rfl) (Wd.u rfl) rfl rfl ?_
          -- call (*selvage/delta.cursor).number
          refine LR.call rfl Try.call13 rfl (Wd.u rfl) rfl rfl (cnum_ct H0.size _ sva t false w0 _ hc hcd (bf_hcd.mono hm0.size) (df2)) (fun v43 H43 r43 => ?_)
          obtain ⟨svb, ma, rb, cb, rfl, hc, hcd, hm4rb, hk1rb, hk2rb, hs43⟩ := r43
          replace hb := hb.upL hs43 (DFL.cons df1 DFL.nil)
          replace hd := hd.upL hs43 (DFL.cons df2 DFL.nil)
          replace ow9 := ow9.upL hs43 (DL.cons dj8 DL.nil)
          replace hm0 := (Mo.trL (ks := []) (hm0.mdn []) hs43 (MIL.cons (MI.app MI.z (nx3) (Nat.le_refl _)) MIL.nil)).nil
          replace hlm1 := hlm1.trL hs43 (MIL.cons (MI.app (MI.root (by simp)) (nx_hlm1_hc) (Nat.le_refl _)) MIL.nil)
          have hz7 := hs43.size
          have bf_hcd := bf_hcd
          refine LR.v (Y.assign rfl rfl) (Wd.u rfl) rfl rfl ?_
          refine LR.nil ?_
          refine hK29 _ _ ?_
          refine CW.seq (fun K30 hK30 hE30 => ?_)
          refine CW.region ?_
          refine LR.v (Y.move rfl rfl) (Wd.u rfl) rfl rfl ?_
          -- call (*selvage/delta.cursor).number
          refine LR.call rfl Try.call13 rfl (Wd.u rfl) rfl rfl (cnum_ct H0.size _ svb rb cb w0 _ hc hcd (bf_hcd.mono hm0.size) (df2)) (fun v45 H45 r45 => ?_)
          obtain ⟨svc, mb, rc, cc, rfl, hc, hcd, hm4rc, hk1rc, hk2rc, hs45⟩ := r45
          replace hb := hb.upL hs45 (DFL.cons df1 DFL.nil)
          replace hd := hd.upL hs45 (DFL.cons df2 DFL.nil)
          replace ow9 := ow9.upL hs45 (DL.cons dj8 DL.nil)
          replace hm0 := (Mo.trL (ks := []) (hm0.mdn []) hs45 (MIL.cons (MI.app MI.z (nx3) (Nat.le_refl _)) MIL.nil)).nil
          replace hlm1 := hlm1.trL hs45 (MIL.cons (MI.app (MI.root (by simp)) (nx_hlm1_hc) (Nat.le_refl _)) MIL.nil)
          have hz8 := hs45.size
          have bf_hcd := bf_hcd
          obtain ⟨hT, hF⟩ := two hk1rb hk2rb hk1rc hk2rc
          refine LR.v (Y.assign rfl rfl) (Wd.u rfl) rfl rfl ?_
          refine LR.nil ?_
          refine hK30 _ _ ?_
          refine CW.seq (fun K31 hK31 hE31 => ?_)
          refine CW.seq (fun K32 hK32 hE32 => ?_)
          refine CW.region ?_
          refine LR.v (Y.move rfl rfl) (Wd.u rfl) rfl rfl ?_
          refine LR.v (Y.nilCheck rfl rfl) (Wd.u rfl) rfl rfl ?_
          refine LR.v (Y.fieldAddr hc.pt rfl Try.runUnderlying39 rfl rfl Try.sizeOf4 (by decide) rfl) (Wd.u rfl) rfl rfl ?_
          refine LR.v (Y.load1 (hc.pt.drop 1) rfl Try.isAgg4 rfl) (Wd.u rfl) rfl rfl ?_
          refine LR.v (Y.not rfl rfl) (Wd.u rfl) rfl rfl ?_
          refine LR.v (Y.move rfl rfl) (Wd.u rfl) rfl rfl ?_
          refine LR.split (d := 51) rfl (fun g51 => ?_) (fun g51 => ?_)
          ·
            obtain rfl : cc = false := by simpa using g51
            obtain ⟨hF8, hA, hB, rfl⟩ := hF rfl
            have hsl : ¬ bad1 bs size out ma mb → (bs.take (ma + mb)).drop ma = slc bs ma mb ∧ (slc bs ma mb).length = mb := fun h => by unfold bad1 at h; exact ⟨by rw [slc, List.take_drop], slc_len _ _ _ (by omega)⟩
            refine LR.v (Y.move rfl rfl) (Wd.g rfl rfl rfl) rfl rfl ?_
            refine LR.v (Y.move rfl rfl) (Wd.g rfl rfl rfl) rfl rfl ?_
            refine LR.v (Y.len hb rfl Try.runUnderlying22 rfl) (Wd.g rfl rfl rfl) rfl rfl ?_
            refine LR.v (Y.gtr rfl rfl rfl) (Wd.g rfl rfl rfl) rfl rfl ?_
            refine LR.v (Y.move rfl rfl) (Wd.g rfl rfl rfl) rfl rfl ?_
            refine LR.splitp (d := 56) rfl (fun g56 => ?_) (fun g56 => ?_)
            ·
              refine LR.gs rfl rfl rfl rfl rfl rfl ?_
              refine LR.gs rfl rfl rfl rfl rfl rfl ?_
              refine LR.gs rfl rfl rfl rfl rfl rfl ?_
              refine LR.gs rfl rfl rfl rfl rfl rfl ?_
              refine LR.gs rfl rfl rfl rfl rfl rfl ?_
              refine LR.gs rfl rfl rfl rfl rfl rfl ?_
              refine LR.v (Y.pick_t rfl rfl rfl) (Wd.g rfl rfl rfl) rfl rfl ?_
              refine LR.v (Y.pick_t rfl rfl rfl) (Wd.u rfl) rfl rfl ?_
              refine LR.nil ?_
              refine hK32 _ _ ?_
              refine CW.cond_t rfl ?_
              refine CW.seq (fun K33 hK33 hE33 => ?_)
              refine CW.region ?_
              refine LR.v (Y.assign rfl rfl) (Wd.u rfl) rfl rfl ?_
              refine LR.v (Y.assign rfl rfl) (Wd.u rfl) rfl rfl ?_
              refine LR.nil ?_
              refine hK33 _ _ ?_
              refine CW.ret (hE31 .ret nofun _ _ (hE27 .ret nofun (by simp) _ _ (hE25 .ret nofun _ _ (hE16 .ret nofun (by simp) _ _ (hE15 .ret nofun _ _ (hE14 .ret nofun (by simp) _ _ (hE13 .ret nofun _ _ (hE2 .ret nofun nofun _ _ (hret .ret (.inr rfl) _ _ _ (res2 rfl rfl rfl) ?_)))))))))
              exact ⟨_, 0, [], _, rfl, Qr.nil _ _ _, Nx.refl _ _, by first | (rw [← hap, apf_i12 (hT c86)]; done) | (rw [← hap, apf_c1 (by omega)]; done) | (rw [← hap, apf_c2 (by omega) (by rw [hA, hB]; unfold bad1; omega)]; done) | (rw [← hap, apf_i1 (by omega)]; done) | (rw [← hap, apf_i2 (by omega) (by omega)]; done) | (rw [← hap, apf_i3 (by omega) (by rw [hB]; omega) (by rw [hB]; omega)]; done) | (rw [← hap, apf_o (fun e => c40 (by rw [e]; rfl)) (fun e => c79 (by rw [e]; rfl))]; done) | (rw [← hap, if_neg (by omega)]; done), hm0⟩
            ·
              refine LR.v (Y.move rfl rfl) (Wd.g rfl rfl rfl) rfl rfl ?_
              refine LR.v (Y.move rfl rfl) (Wd.g rfl rfl rfl) rfl rfl ?_
              refine LR.v (Y.len hb rfl Try.runUnderlying22 rfl) (Wd.g rfl rfl rfl) rfl rfl ?_
              refine LR.v (Y.move rfl rfl) (Wd.g rfl rfl rfl) rfl rfl ?_
              refine LR.v (Y.subi rfl rfl rfl (by omega)) (Wd.g rfl rfl rfl) rfl rfl ?_
              refine LR.v (Y.gtr rfl rfl rfl) (Wd.g rfl rfl rfl) rfl rfl ?_
              refine LR.v (Y.pick_f rfl rfl rfl) (Wd.g rfl rfl rfl) rfl rfl ?_
              refine LR.v (Y.pick_t rfl rfl rfl) (Wd.u rfl) rfl rfl ?_
              refine LR.nil ?_
              refine hK32 _ _ ?_
              refine CW.condp rfl (fun c64 => ?_) (fun c64 => ?_)
              ·
                refine CW.seq (fun K34 hK34 hE34 => ?_)
                refine CW.region ?_
                refine LR.v (Y.assign rfl rfl) (Wd.u rfl) rfl rfl ?_
                refine LR.v (Y.assign rfl rfl) (Wd.u rfl) rfl rfl ?_
                refine LR.nil ?_
                refine hK34 _ _ ?_
                refine CW.ret (hE31 .ret nofun _ _ (hE27 .ret nofun (by simp) _ _ (hE25 .ret nofun _ _ (hE16 .ret nofun (by simp) _ _ (hE15 .ret nofun _ _ (hE14 .ret nofun (by simp) _ _ (hE13 .ret nofun _ _ (hE2 .ret nofun nofun _ _ (hret .ret (.inr rfl) _ _ _ (res2 rfl rfl rfl) ?_)))))))))
                exact ⟨_, 0, [], _, rfl, Qr.nil _ _ _, Nx.refl _ _, by first | (rw [← hap, apf_i12 (hT c86)]; done) | (rw [← hap, apf_c1 (by omega)]; done) | (rw [← hap, apf_c2 (by omega) (by rw [hA, hB]; unfold bad1; omega)]; done) | (rw [← hap, apf_i1 (by omega)]; done) | (rw [← hap, apf_i2 (by omega) (by omega)]; done) | (rw [← hap, apf_i3 (by omega) (by rw [hB]; omega) (by rw [hB]; omega)]; done) | (rw [← hap, apf_o (fun e => c40 (by rw [e]; rfl)) (fun e => c79 (by rw [e]; rfl))]; done) | (rw [← hap, if_neg (by omega)]; done), hm0⟩
              ·
                refine CW.skip ?_
                refine hK31 _ _ ?_
                refine CW.seq (fun K35 hK35 hE35 => ?_)
                refine CW.region ?_
                refine LR.v (Y.move rfl rfl) (Wd.u rfl) rfl rfl ?_
                refine LR.v (Y.nilCheck rfl rfl) (Wd.u rfl) rfl rfl ?_
                refine LR.v (Y.fieldAddr hc.pt rfl Try.runUnderlying39 rfl rfl Try.sizeOf4 (by decide) rfl) (Wd.u rfl) rfl rfl ?_
                refine LR.v (Y.load1 (hc.pt.drop 1) rfl Try.isAgg4 rfl) (Wd.u rfl) rfl rfl ?_
                refine LR.v (Y.not rfl rfl) (Wd.u rfl) rfl rfl ?_
                refine LR.nil ?_
                refine hK35 _ _ ?_
                refine CW.cond rfl (fun c69 => ?_) (fun c69 => ?_)
                ·
                  first
                  | exact absurd c69 (by decide)
                  | skip
                    refine CW.region ?_
                    refine LR.v (Y.move rfl rfl) (Wd.u rfl) rfl rfl ?_
                    refine LR.v (Y.move rfl rfl) (Wd.u rfl) rfl rfl ?_
                    refine LR.v (Y.move rfl rfl) (Wd.u rfl) rfl rfl ?_
                    refine LR.v (Y.move rfl rfl) (Wd.u rfl) rfl rfl ?_
                    refine LR.v (Y.addi rfl rfl rfl (by omega)) (Wd.u rfl) rfl rfl ?_
                    refine LR.v (Y.move rfl rfl) (Wd.u rfl) rfl rfl ?_
                    refine LR.v (Y.move rfl rfl) (Wd.u rfl) rfl rfl ?_
                    refine LR.v (Y.addi rfl rfl rfl (by omega)) (Wd.u rfl) rfl rfl ?_
                    refine LR.e (g := fun v => v) (Y.slice3 hb (ma) (ma + mb) (ma + mb) rfl Try.runUnderlying22 Try.sizeOf5 rfl (.inr ⟨_, _, _, rfl, rfl, by first | rfl | omega⟩) ⟨_, _, _, rfl, rfl, by first | rfl | omega⟩ ⟨_, _, _, rfl, rfl, by first | rfl | omega⟩ (by omega) (by omega) (by omega)) (Wd.u rfl) rfl rfl (fun v78 rd78 => ?_)
                    have bf_rd78 := bf_hb
                    refine LR.v (Y.assign rfl rfl) (Wd.u rfl) rfl rfl ?_
                    refine LR.nil ?_
                    refine hK27 _ _ ?_
                    refine hK25 _ _ ?_
                    refine CW.seq (fun K36 hK36 hE36 => ?_)
                    refine CW.block (fun K37 hK37 hX37 hE37 => ?_)
                    refine CW.seq (fun K38 hK38 hE38 => ?_)
                    refine CW.region ?_
                    refine LR.v (Y.move rfl rfl) (Wd.u rfl) rfl rfl ?_
                    refine LR.v (Y.nilCheck rfl rfl) (Wd.u rfl) rfl rfl ?_
                    refine LR.v (Y.fieldAddr hc.pt rfl Try.runUnderlying39 rfl rfl Try.sizeOf4 (by decide) rfl) (Wd.u rfl) rfl rfl ?_
                    refine LR.v (Y.load1 (hc.pt.drop 1) rfl Try.isAgg4 rfl) (Wd.u rfl) rfl rfl ?_
                    refine LR.v (Y.assign rfl rfl) (Wd.u rfl) rfl rfl ?_
                    refine LR.nil ?_
                    refine hK38 _ _ ?_
                    refine CW.cond rfl (fun c86 => ?_) (fun c86 => ?_)
                    ·
                      first
                      | exact absurd c86 (by decide)
                      | skip
                        refine CW.seq (fun K39 hK39 hE39 => ?_)
                        refine CW.region ?_
                        refine LR.v (Y.assign rfl rfl) (Wd.u rfl) rfl rfl ?_
                        refine LR.v (Y.assign rfl rfl) (Wd.u rfl) rfl rfl ?_
                        refine LR.nil ?_
                        refine hK39 _ _ ?_
                        refine CW.ret (hE37 .ret nofun (by simp) _ _ (hE36 .ret nofun _ _ (hE16 .ret nofun (by simp) _ _ (hE15 .ret nofun _ _ (hE14 .ret nofun (by simp) _ _ (hE13 .ret nofun _ _ (hE2 .ret nofun nofun _ _ (hret .ret (.inr rfl) _ _ _ (res2 rfl rfl rfl) ?_))))))))
                        exact ⟨_, 0, [], _, rfl, Qr.nil _ _ _, Nx.refl _ _, by first | (rw [← hap, apf_i12 (hT c86)]; done) | (rw [← hap, apf_c1 (by omega)]; done) | (rw [← hap, apf_c2 (by omega) (by rw [hA, hB]; unfold bad1; omega)]; done) | (rw [← hap, apf_i1 (by omega)]; done) | (rw [← hap, apf_i2 (by omega) (by omega)]; done) | (rw [← hap, apf_i3 (by omega) (by rw [hB]; omega) (by rw [hB]; omega)]; done) | (rw [← hap, apf_o (fun e => c40 (by rw [e]; rfl)) (fun e => c79 (by rw [e]; rfl))]; done) | (rw [← hap, if_neg (by omega)]; done), hm0⟩
                    ·
                      first
                      | exact absurd c86 (by decide)
                      | skip
                        try (subst c86)
                        try (have hq0 := ht2; obtain ⟨hF4, hB, hn4, rfl, rfl⟩ := hF rfl)
                        refine CW.seq (fun K40 hK40 hE40 => ?_)
                        refine CW.region ?_
                        refine LR.v (Y.move rfl rfl) (Wd.u rfl) rfl rfl ?_
                        refine LR.v (Y.eql rfl rfl rfl) (Wd.u rfl) rfl rfl ?_
                        refine LR.v (Y.move rfl rfl) (Wd.u rfl) rfl rfl ?_
                        refine LR.splitp (d := 94) rfl (fun g94 => ?_) (fun g94 => ?_)
                        ·
                          refine LR.gs rfl rfl rfl rfl rfl rfl ?_
                          refine LR.gs rfl rfl rfl rfl rfl rfl ?_
                          refine LR.gs rfl rfl rfl rfl rfl rfl ?_
                          refine LR.gs rfl rfl rfl rfl rfl rfl ?_
                          refine LR.gs rfl rfl rfl rfl rfl rfl ?_
                          refine LR.gs rfl rfl rfl rfl rfl rfl ?_
                          refine LR.v (Y.pick_t rfl rfl rfl) (Wd.u rfl) rfl rfl ?_
                          refine LR.v (Y.assign rfl rfl) (Wd.u rfl) rfl rfl ?_
                          refine LR.nil ?_
                          refine hK40 _ _ ?_
                          refine CW.cond_t rfl ?_
                          refine CW.seq (fun K41 hK41 hE41 => ?_)
                          refine CW.region ?_
                          refine LR.v (Y.assign rfl rfl) (Wd.u rfl) rfl rfl ?_
                          refine LR.v (Y.assign rfl rfl) (Wd.u rfl) rfl rfl ?_
                          refine LR.nil ?_
                          refine hK41 _ _ ?_
                          refine CW.ret (hE37 .ret nofun (by simp) _ _ (hE36 .ret nofun _ _ (hE16 .ret nofun (by simp) _ _ (hE15 .ret nofun _ _ (hE14 .ret nofun (by simp) _ _ (hE13 .ret nofun _ _ (hE2 .ret nofun nofun _ _ (hret .ret (.inr rfl) _ _ _ (res2 rfl rfl rfl) ?_))))))))
                          exact ⟨_, 0, [], _, rfl, Qr.nil _ _ _, Nx.refl _ _, by first | (rw [← hap, apf_i12 (hT c86)]; done) | (rw [← hap, apf_c1 (by omega)]; done) | (rw [← hap, apf_c2 (by omega) (by rw [hA, hB]; unfold bad1; omega)]; done) | (rw [← hap, apf_i1 (by omega)]; done) | (rw [← hap, apf_i2 (by omega) (by omega)]; done) | (rw [← hap, apf_i3 (by omega) (by rw [hB]; omega) (by rw [hB]; omega)]; done) | (rw [← hap, apf_o (fun e => c40 (by rw [e]; rfl)) (fun e => c79 (by rw [e]; rfl))]; done) | (rw [← hap, if_neg (by omega)]; done), hm0⟩
                        ·
                          refine LR.v (Y.move rfl rfl) (Wd.g rfl rfl rfl) rfl rfl ?_
                          refine LR.v (Y.move rfl rfl) (Wd.g rfl rfl rfl) rfl rfl ?_
                          refine LR.v (Y.move rfl rfl) (Wd.g rfl rfl rfl) rfl rfl ?_
                          refine LR.v (Y.len ow9.rd rfl Try.runUnderlying22 rfl) (Wd.g rfl rfl rfl) rfl rfl ?_
                          refine LR.v (Y.subi rfl rfl rfl (by omega)) (Wd.g rfl rfl rfl) rfl rfl ?_
                          refine LR.v (Y.gtr rfl rfl rfl) (Wd.g rfl rfl rfl) rfl rfl ?_
                          refine LR.v (Y.pick_f rfl rfl rfl) (Wd.u rfl) rfl rfl ?_
                          refine LR.v (Y.assign rfl rfl) (Wd.u rfl) rfl rfl ?_
                          refine LR.nil ?_
                          refine hK40 _ _ ?_
                          refine CW.condp rfl (fun c91 => ?_) (fun c91 => ?_)
                          ·
                            refine CW.seq (fun K42 hK42 hE42 => ?_)
                            refine CW.region ?_
                            refine LR.v (Y.assign rfl rfl) (Wd.u rfl) rfl rfl ?_
                            refine LR.v (Y.assign rfl rfl) (Wd.u rfl) rfl rfl ?_
                            refine LR.nil ?_
                            refine hK42 _ _ ?_
                            refine CW.ret (hE37 .ret nofun (by simp) _ _ (hE36 .ret nofun _ _ (hE16 .ret nofun (by simp) _ _ (hE15 .ret nofun _ _ (hE14 .ret nofun (by simp) _ _ (hE13 .ret nofun _ _ (hE2 .ret nofun nofun _ _ (hret .ret (.inr rfl) _ _ _ (res2 rfl rfl rfl) ?_))))))))
                            exact ⟨_, 0, [], _, rfl, Qr.nil _ _ _, Nx.refl _ _, by first | (rw [← hap, apf_i12 (hT c86)]; done) | (rw [← hap, apf_c1 (by omega)]; done) | (rw [← hap, apf_c2 (by omega) (by rw [hA, hB]; unfold bad1; omega)]; done) | (rw [← hap, apf_i1 (by omega)]; done) | (rw [← hap, apf_i2 (by omega) (by omega)]; done) | (rw [← hap, apf_i3 (by omega) (by rw [hB]; omega) (by rw [hB]; omega)]; done) | (rw [← hap, apf_o (fun e => c40 (by rw [e]; rfl)) (fun e => c79 (by rw [e]; rfl))]; done) | (rw [← hap, if_neg (by omega)]; done), hm0⟩
                          ·
                            refine CW.skip ?_
                            refine hK37 _ _ ?_
                            refine hK36 _ _ ?_
                            refine CW.region ?_
                            refine LR.v (Y.move rfl rfl) (Wd.u rfl) rfl rfl ?_
                            refine LR.v (Y.move rfl rfl) (Wd.u rfl) rfl rfl ?_
                            refine LR.z (Z.apnd ow9 rd78 rfl inf22 rfl rfl (by first | omega | (simp; omega) | (simp [slc]; omega)) (by first | omega | (simp; omega) | (simp [slc]; omega))) (Wd.u rfl) rfl rfl (fun v104 H104 r104 => ?_)
                            obtain ⟨k104, ow104, hk104, hs104⟩ := r104
                            replace hk104 : Nx ko H45.size k104 := hk104
                            replace hs104 := hs104.md
                            have df10 := DF.app (df4) (bf_hb.mono hm0.size) hk104
                            have df11 := DF.app (df5) (bf_hd.mono hm0.size) hk104
                            have df12 := DF.app (df6) (bf_hcd.mono hm0.size) hk104
                            have dj13 : Dj (H0.size + 1) k104 := Dj.app (dj8.symm) hc.lt hk104
                            have df14 := DF.app (df4) (bf_rd78.mono hm0.size) hk104
                            have nx15 : Nx 0 H0.size k104 := Nx.tr (nx7) hk104 hm0.size
                            have nx16 : Nx 0 H19.size k104 := Nx.tr (nx9) hk104 hlm1.size
                            replace hb := hb.upL hs104 (DFL.cons df4 DFL.nil)
                            replace hd := hd.upL hs104 (DFL.cons df5 DFL.nil)
                            replace hcd := hcd.upL hs104 (DFL.cons df6 DFL.nil)
                            replace hc := hc.upL hs104 (DL.cons dj8.symm DL.nil)
                            replace rd78 := rd78.upL hs104 (DFL.cons df4 DFL.nil)
                            replace hm0 := (Mo.trL (ks := []) (hm0.mdn []) hs104 (MIL.cons (MI.app MI.z (nx7) (Nat.le_refl _)) MIL.nil)).nil
                            replace hlm1 := hlm1.trL hs104 (MIL.cons (MI.app MI.z (nx9) (Nat.le_refl _)) MIL.nil)
                            have hz9 := hs104.size
                            have hle_ow104 := ow104.le
                            refine LR.v (Y.assign rfl rfl) (Wd.u rfl) rfl rfl ?_
                            refine LR.nil ?_
                            refine hK16 _ _ ?_
                            have hnb : ¬ bad1 bs size out ma mb := by unfold bad1; omega
                            obtain ⟨hs1, hs2⟩ := hsl hnb
                            rw [hs1] at ow104
                            rw [apf_c3 (by omega) (by rw [hA, hB]; exact hnb), hA, hB] at hap
                            refine QN.sub (hN15 (v104, k104, out ++ slc bs ma mb, svc, t.drop 8) _ ?_ ?_) ⟨rfl, rfl, (iv (by omega)), rfl, trivial⟩
                            · exact ⟨ow104, hc, hcd, (by simp; omega), (by rw [List.length_append]; unfold bad1 at hnb; omega), hap, nx16, dj13.symm, hlm1⟩
                            · simp only [List.length_drop, List.length_cons]; omega
                ·
                  first
                  | exact absurd c69 (by decide)
                  | skip
                    refine CW.skip ?_
                    refine hK27 _ _ ?_
                    refine hK25 _ _ ?_
                    refine CW.seq (fun K43 hK43 hE43 => ?_)
                    refine CW.block (fun K44 hK44 hX44 hE44 => ?_)
                    refine CW.seq (fun K45 hK45 hE45 => ?_)
                    refine CW.region ?_
                    refine LR.v (Y.move rfl rfl) (Wd.u rfl) rfl rfl ?_
                    refine LR.v (Y.nilCheck rfl rfl) (Wd.u rfl) rfl rfl ?_
                    refine LR.v (Y.fieldAddr hc.pt rfl Try.runUnderlying39 rfl rfl Try.sizeOf4 (by decide) rfl) (Wd.u rfl) rfl rfl ?_
                    refine LR.v (Y.load1 (hc.pt.drop 1) rfl Try.isAgg4 rfl) (Wd.u rfl) rfl rfl ?_
                    refine LR.v (Y.assign rfl rfl) (Wd.u rfl) rfl rfl ?_
                    refine LR.nil ?_
                    refine hK45 _ _ ?_
                    refine CW.cond rfl (fun c86 => ?_) (fun c86 => ?_)
                    ·
                      first
                      | exact absurd c86 (by decide)
                      | skip
                        refine CW.seq (fun K46 hK46 hE46 => ?_)
                        refine CW.region ?_
                        refine LR.v (Y.assign rfl rfl) (Wd.u rfl) rfl rfl ?_
                        refine LR.v (Y.assign rfl rfl) (Wd.u rfl) rfl rfl ?_
                        refine LR.nil ?_
                        refine hK46 _ _ ?_
                        refine CW.ret (hE44 .ret nofun (by simp) _ _ (hE43 .ret nofun _ _ (hE16 .ret nofun (by simp) _ _ (hE15 .ret nofun _ _ (hE14 .ret nofun (by simp) _ _ (hE13 .ret nofun _ _ (hE2 .ret nofun nofun _ _ (hret .ret (.inr rfl) _ _ _ (res2 rfl rfl rfl) ?_))))))))
                        exact ⟨_, 0, [], _, rfl, Qr.nil _ _ _, Nx.refl _ _, by first | (rw [← hap, apf_i12 (hT c86)]; done) | (rw [← hap, apf_c1 (by omega)]; done) | (rw [← hap, apf_c2 (by omega) (by rw [hA, hB]; unfold bad1; omega)]; done) | (rw [← hap, apf_i1 (by omega)]; done) | (rw [← hap, apf_i2 (by omega) (by omega)]; done) | (rw [← hap, apf_i3 (by omega) (by rw [hB]; omega) (by rw [hB]; omega)]; done) | (rw [← hap, apf_o (fun e => c40 (by rw [e]; rfl)) (fun e => c79 (by rw [e]; rfl))]; done) | (rw [← hap, if_neg (by omega)]; done), hm0⟩
                    ·
                      first
                      | exact absurd c86 (by decide)
                      | skip
                        try (subst c86)
                        try (have hq0 := ht2; obtain ⟨hF4, hB, hn4, rfl, rfl⟩ := hF rfl)
                        refine CW.seq (fun K47 hK47 hE47 => ?_)
                        refine CW.region ?_
                        refine LR.v (Y.move rfl rfl) (Wd.u rfl) rfl rfl ?_
                        refine LR.v (Y.eql rfl rfl rfl) (Wd.u rfl) rfl rfl ?_
                        refine LR.v (Y.move rfl rfl) (Wd.u rfl) rfl rfl ?_
                        refine LR.splitp (d := 94) rfl (fun g94 => ?_) (fun g94 => ?_)
                        ·
                          refine LR.gs rfl rfl rfl rfl rfl rfl ?_
                          refine LR.gs rfl rfl rfl rfl rfl rfl ?_
                          refine LR.gs rfl rfl rfl rfl rfl rfl ?_
                          refine LR.gs rfl rfl rfl rfl rfl rfl ?_
                          refine LR.gs rfl rfl rfl rfl rfl rfl ?_
                          refine LR.gs rfl rfl rfl rfl rfl rfl ?_
                          refine LR.v (Y.pick_t rfl rfl rfl) (Wd.u rfl) rfl rfl ?_
                          refine LR.v (Y.assign rfl rfl) (Wd.u rfl) rfl rfl ?_
                          refine LR.nil ?_
                          refine hK47 _ _ ?_
                          refine CW.cond_t rfl ?_
                          refine CW.seq (fun K48 hK48 hE48 => ?_)
                          refine CW.region ?_
                          refine LR.v (Y.assign rfl rfl) (Wd.u rfl) rfl rfl ?_
                          refine LR.v (Y.assign rfl rfl) (Wd.u rfl) rfl rfl ?_
                          refine LR.nil ?_
                          refine hK48 _ _ ?_
                          refine CW.ret (hE44 .ret nofun (by simp) _ _ (hE43 .ret nofun _ _ (hE16 .ret nofun (by simp) _ _ (hE15 .ret nofun _ _ (hE14 .ret nofun (by simp) _ _ (hE13 .ret nofun _ _ (hE2 .ret nofun nofun _ _ (hret .ret (.inr rfl) _ _ _ (res2 rfl rfl rfl) ?_))))))))
                          exact ⟨_, 0, [], _, rfl, Qr.nil _ _ _, Nx.refl _ _, by first | (rw [← hap, apf_i12 (hT c86)]; done) | (rw [← hap, apf_c1 (by omega)]; done) | (rw [← hap, apf_c2 (by omega) (by rw [hA, hB]; unfold bad1; omega)]; done) | (rw [← hap, apf_i1 (by omega)]; done) | (rw [← hap, apf_i2 (by omega) (by omega)]; done) | (rw [← hap, apf_i3 (by omega) (by rw [hB]; omega) (by rw [hB]; omega)]; done) | (rw [← hap, apf_o (fun e => c40 (by rw [e]; rfl)) (fun e => c79 (by rw [e]; rfl))]; done) | (rw [← hap, if_neg (by omega)]; done), hm0⟩
                        ·
                          refine LR.v (Y.move rfl rfl) (Wd.g rfl rfl rfl) rfl rfl ?_
                          refine LR.v (Y.move rfl rfl) (Wd.g rfl rfl rfl) rfl rfl ?_
                          refine LR.v (Y.move rfl rfl) (Wd.g rfl rfl rfl) rfl rfl ?_
                          refine LR.v (Y.len ow9.rd rfl Try.runUnderlying22 rfl) (Wd.g rfl rfl rfl) rfl rfl ?_
                          refine LR.v (Y.subi rfl rfl rfl (by omega)) (Wd.g rfl rfl rfl) rfl rfl ?_
                          refine LR.v (Y.gtr rfl rfl rfl) (Wd.g rfl rfl rfl) rfl rfl ?_
                          refine LR.v (Y.pick_f rfl rfl rfl) (Wd.u rfl) rfl rfl ?_
                          refine LR.v (Y.assign rfl rfl) (Wd.u rfl) rfl rfl ?_
                          refine LR.nil ?_
                          refine hK47 _ _ ?_
                          refine CW.condp rfl (fun c91 => ?_) (fun c91 => ?_)
                          ·
                            refine CW.seq (fun K49 hK49 hE49 => ?_)
                            refine CW.region ?_
                            refine LR.v (Y.assign rfl rfl) (Wd.u rfl) rfl rfl ?_
                            refine LR.v (Y.assign rfl rfl) (Wd.u rfl) rfl rfl ?_
                            refine LR.nil ?_
                            refine hK49 _ _ ?_
                            refine CW.ret (hE44 .ret nofun (by simp) _ _ (hE43 .ret nofun _ _ (hE16 .ret nofun (by simp) _ _ (hE15 .ret nofun _ _ (hE14 .ret nofun (by simp) _ _ (hE13 .ret nofun _ _ (hE2 .ret nofun nofun _ _ (hret .ret (.inr rfl) _ _ _ (res2 rfl rfl rfl) ?_))))))))
                            exact ⟨_, 0, [], _, rfl, Qr.nil _ _ _, Nx.refl _ _, by first | (rw [← hap, apf_i12 (hT c86)]; done) | (rw [← hap, apf_c1 (by omega)]; done) | (rw [← hap, apf_c2 (by omega) (by rw [hA, hB]; unfold bad1; omega)]; done) | (rw [← hap, apf_i1 (by omega)]; done) | (rw [← hap, apf_i2 (by omega) (by omega)]; done) | (rw [← hap, apf_i3 (by omega) (by rw [hB]; omega) (by rw [hB]; omega)]; done) | (rw [← hap, apf_o (fun e => c40 (by rw [e]; rfl)) (fun e => c79 (by rw [e]; rfl))]; done) | (rw [← hap, if_neg (by omega)]; done), hm0⟩
                          ·
                            refine CW.skip ?_
                            refine hK44 _ _ ?_
                            refine hK43 _ _ ?_
                            refine CW.region ?_
                            refine LR.v (Y.move rfl rfl) (Wd.u rfl) rfl rfl ?_
                            refine LR.v (Y.move rfl rfl) (Wd.u rfl) rfl rfl ?_
                            refine LR.z (Z.apnd ow9 NOFACT rfl inf22 rfl rfl (by first | omega | (simp; omega) | (simp [slc]; omega)) (by first | omega | (simp; omega) | (simp [slc]; omega))) (Wd.u rfl) rfl rfl (fun v104 H104 r104 => ?_)
                            obtain ⟨k104, ow104, hk104, hs104⟩ := r104
                            replace hk104 : Nx ko H45.size k104 := hk104
                            replace hs104 := hs104.md
                            have df17 := DF.app (df4) (bf_hb.mono hm0.size) hk104
                            have df18 := DF.app (df5) (bf_hd.mono hm0.size) hk104
                            have df19 := DF.app (df6) (bf_hcd.mono hm0.size) hk104
                            have dj20 : Dj (H0.size + 1) k104 := Dj.app (dj8.symm) hc.lt hk104
                            have nx21 : Nx 0 H0.size k104 := Nx.tr (nx7) hk104 hm0.size
                            have nx22 : Nx 0 H19.size k104 := Nx.tr (nx9) hk104 hlm1.size
                            replace hb := hb.upL hs104 (DFL.cons df4 DFL.nil)
                            replace hd := hd.upL hs104 (DFL.cons df5 DFL.nil)
                            replace hcd := hcd.upL hs104 (DFL.cons df6 DFL.nil)
                            replace hc := hc.upL hs104 (DL.cons dj8.symm DL.nil)
                            replace hm0 := (Mo.trL (ks := []) (hm0.mdn []) hs104 (MIL.cons (MI.app MI.z (nx7) (Nat.le_refl _)) MIL.nil)).nil
                            replace hlm1 := hlm1.trL hs104 (MIL.cons (MI.app MI.z (nx9) (Nat.le_refl _)) MIL.nil)
                            have hz10 := hs104.size
                            have hle_ow104 := ow104.le
                            refine LR.v (Y.assign rfl rfl) (Wd.u rfl) rfl rfl ?_
                            refine LR.nil ?_
                            refine hK16 _ _ ?_
                            refine QN.sub (hN15 (v104, k104, out, svc, t) _ ?_ ?_) ⟨rfl, rfl, (iv (by omega)), rfl, trivial⟩
                            · exact ⟨ow9, hc, hcd, (by omega), (by omega), (by omega), (by assumption), (by assumption), hlm1⟩
                            · first | omega | (simp only; omega) | (simp; omega)
          ·
            obtain rfl : cc = true := by simpa using g51
            have hT8 := hT rfl
            refine LR.gs rfl rfl rfl rfl rfl rfl ?_
            refine LR.gs rfl rfl rfl rfl rfl rfl ?_
            refine LR.gs rfl rfl rfl rfl rfl rfl ?_
            refine LR.gs rfl rfl rfl rfl rfl rfl ?_
            refine LR.gs rfl rfl rfl rfl rfl rfl ?_
            refine LR.gsu rfl rfl rfl rfl rfl ?_
            refine LR.gsu rfl rfl rfl rfl rfl ?_
            refine LR.gsu rfl rfl rfl rfl rfl ?_
            refine LR.gsu rfl rfl rfl rfl rfl ?_
            refine LR.gsu rfl rfl rfl rfl rfl ?_
            refine LR.gsu rfl rfl rfl rfl rfl ?_
            refine LR.gs rfl rfl rfl rfl rfl rfl ?_
            refine LR.v (Y.pick_f rfl rfl rfl) (Wd.u rfl) rfl rfl ?_
            refine LR.nil ?_
            refine hK32 _ _ ?_
            refine CW.cond_f rfl ?_
            refine CW.skip ?_
            refine hK31 _ _ ?_
            refine CW.seq (fun K50 hK50 hE50 => ?_)
            refine CW.region ?_
            refine LR.v (Y.move rfl rfl) (Wd.u rfl) rfl rfl ?_
            refine LR.v (Y.nilCheck rfl rfl) (Wd.u rfl) rfl rfl ?_
            refine LR.v (Y.fieldAddr hc.pt rfl Try.runUnderlying39 rfl rfl Try.sizeOf4 (by decide) rfl) (Wd.u rfl) rfl rfl ?_
            refine LR.v (Y.load1 (hc.pt.drop 1) rfl Try.isAgg4 rfl) (Wd.u rfl) rfl rfl ?_
            refine LR.v (Y.not rfl rfl) (Wd.u rfl) rfl rfl ?_
            refine LR.nil ?_
            refine hK50 _ _ ?_
            refine CW.cond rfl (fun c69 => ?_) (fun c69 => ?_)
            ·
              first
              | exact absurd c69 (by decide)
              | skip
                refine CW.region ?_
                refine LR.v (Y.move rfl rfl) (Wd.u rfl) rfl rfl ?_
                refine LR.v (Y.move rfl rfl) (Wd.u rfl) rfl rfl ?_
                refine LR.v (Y.move rfl rfl) (Wd.u rfl) rfl rfl ?_
                refine LR.v (Y.move rfl rfl) (Wd.u rfl) rfl rfl ?_
                refine LR.v (Y.addi rfl rfl rfl (by omega)) (Wd.u rfl) rfl rfl ?_
                refine LR.v (Y.move rfl rfl) (Wd.u rfl) rfl rfl ?_
                refine LR.v (Y.move rfl rfl) (Wd.u rfl) rfl rfl ?_
                refine LR.v (Y.addi rfl rfl rfl (by omega)) (Wd.u rfl) rfl rfl ?_
                refine LR.e (g := fun v => v) (Y.slice3 hb (ma) (ma + mb) (ma + mb) rfl Try.runUnderlying22 Try.sizeOf5 rfl (.inr ⟨_, _, _, rfl, rfl, by first | rfl | omega⟩) ⟨_, _, _, rfl, rfl, by first | rfl | omega⟩ ⟨_, _, _, rfl, rfl, by first | rfl | omega⟩ (by omega) (by omega) (by omega)) (Wd.u rfl) rfl rfl (fun v78 rd78 => ?_)
                have bf_rd78 := bf_hb
                refine LR.v (Y.assign rfl rfl) (Wd.u rfl) rfl rfl ?_
                refine LR.nil ?_
                refine hK27 _ _ ?_
                refine hK25 _ _ ?_
                refine CW.seq (fun K51 hK51 hE51 => ?_)
                refine CW.block (fun K52 hK52 hX52 hE52 => ?_)
                refine CW.seq (fun K53 hK53 hE53 => ?_)
                refine CW.region ?_
                refine LR.v (Y.move rfl rfl) (Wd.u rfl) rfl rfl ?_
                refine LR.v (Y.nilCheck rfl rfl) (Wd.u rfl) rfl rfl ?_
                refine LR.v (Y.fieldAddr hc.pt rfl Try.runUnderlying39 rfl rfl Try.sizeOf4 (by decide) rfl) (Wd.u rfl) rfl rfl ?_
                refine LR.v (Y.load1 (hc.pt.drop 1) rfl Try.isAgg4 rfl) (Wd.u rfl) rfl rfl ?_
                refine LR.v (Y.assign rfl rfl) (Wd.u rfl) rfl rfl ?_
                refine LR.nil ?_
                refine hK53 _ _ ?_
                refine CW.cond rfl (fun c86 => ?_) (fun c86 => ?_)
                ·
                  first
                  | exact absurd c86 (by decide)
                  | skip
                    refine CW.seq (fun K54 hK54 hE54 => ?_)
                    refine CW.region ?_
                    refine LR.v (Y.assign rfl rfl) (Wd.u rfl) rfl rfl ?_
                    refine LR.v (Y.assign rfl rfl) (Wd.u rfl) rfl rfl ?_
                    refine LR.nil ?_
                    refine hK54 _ _ ?_
                    refine CW.ret (hE52 .ret nofun (by simp) _ _ (hE51 .ret nofun _ _ (hE16 .ret nofun (by simp) _ _ (hE15 .ret nofun _ _ (hE14 .ret nofun (by simp) _ _ (hE13 .ret nofun _ _ (hE2 .ret nofun nofun _ _ (hret .ret (.inr rfl) _ _ _ (res2 rfl rfl rfl) ?_))))))))
                    exact ⟨_, 0, [], _, rfl, Qr.nil _ _ _, Nx.refl _ _, by first | (rw [← hap, apf_i12 (hT c86)]; done) | (rw [← hap, apf_c1 (by omega)]; done) | (rw [← hap, apf_c2 (by omega) (by rw [hA, hB]; unfold bad1; omega)]; done) | (rw [← hap, apf_i1 (by omega)]; done) | (rw [← hap, apf_i2 (by omega) (by omega)]; done) | (rw [← hap, apf_i3 (by omega) (by rw [hB]; omega) (by rw [hB]; omega)]; done) | (rw [← hap, apf_o (fun e => c40 (by rw [e]; rfl)) (fun e => c79 (by rw [e]; rfl))]; done) | (rw [← hap, if_neg (by omega)]; done), hm0⟩
                ·
                  first
                  | exact absurd c86 (by decide)
                  | skip
                    try (subst c86)
                    try (have hq0 := ht2; obtain ⟨hF4, hB, hn4, rfl, rfl⟩ := hF rfl)
                    refine CW.seq (fun K55 hK55 hE55 => ?_)
                    refine CW.region ?_
                    refine LR.v (Y.move rfl rfl) (Wd.u rfl) rfl rfl ?_
                    refine LR.v (Y.eql rfl rfl rfl) (Wd.u rfl) rfl rfl ?_
                    refine LR.v (Y.move rfl rfl) (Wd.u rfl) rfl rfl ?_
                    refine LR.splitp (d := 94) rfl (fun g94 => ?_) (fun g94 => ?_)
                    ·
                      refine LR.gs rfl rfl rfl rfl rfl rfl ?_
                      refine LR.gs rfl rfl rfl rfl rfl rfl ?_
                      refine LR.gs rfl rfl rfl rfl rfl rfl ?_
                      refine LR.gs rfl rfl rfl rfl rfl rfl ?_
                      refine LR.gs rfl rfl rfl rfl rfl rfl ?_
                      refine LR.gs rfl rfl rfl rfl rfl rfl ?_
                      refine LR.v (Y.pick_t rfl rfl rfl) (Wd.u rfl) rfl rfl ?_
                      refine LR.v (Y.assign rfl rfl) (Wd.u rfl) rfl rfl ?_
                      refine LR.nil ?_
                      refine hK55 _ _ ?_
                      refine CW.cond_t rfl ?_
                      refine CW.seq (fun K56 hK56 hE56 => ?_)
                      refine CW.region ?_
                      refine LR.v (Y.assign rfl rfl) (Wd.u rfl) rfl rfl ?_
                      refine LR.v (Y.assign rfl rfl) (Wd.u rfl) rfl rfl ?_
                      refine LR.nil ?_
                      refine hK56 _ _ ?_
                      refine CW.ret (hE52 .ret nofun (by simp) _ _ (hE51 .ret nofun _ _ (hE16 .ret nofun (by simp) _ _ (hE15 .ret nofun _ _ (hE14 .ret nofun (by simp) _ _ (hE13 .ret nofun _ _ (hE2 .ret nofun nofun _ _ (hret .ret (.inr rfl) _ _ _ (res2 rfl rfl rfl) ?_))))))))
                      exact ⟨_, 0, [], _, rfl, Qr.nil _ _ _, Nx.refl _ _, by first | (rw [← hap, apf_i12 (hT c86)]; done) | (rw [← hap, apf_c1 (by omega)]; done) | (rw [← hap, apf_c2 (by omega) (by rw [hA, hB]; unfold bad1; omega)]; done) | (rw [← hap, apf_i1 (by omega)]; done) | (rw [← hap, apf_i2 (by omega) (by omega)]; done) | (rw [← hap, apf_i3 (by omega) (by rw [hB]; omega) (by rw [hB]; omega)]; done) | (rw [← hap, apf_o (fun e => c40 (by rw [e]; rfl)) (fun e => c79 (by rw [e]; rfl))]; done) | (rw [← hap, if_neg (by omega)]; done), hm0⟩
                    ·
                      refine LR.v (Y.move rfl rfl) (Wd.g rfl rfl rfl) rfl rfl ?_
                      refine LR.v (Y.move rfl rfl) (Wd.g rfl rfl rfl) rfl rfl ?_
                      refine LR.v (Y.move rfl rfl) (Wd.g rfl rfl rfl) rfl rfl ?_
                      refine LR.v (Y.len ow9.rd rfl Try.runUnderlying22 rfl) (Wd.g rfl rfl rfl) rfl rfl ?_
                      refine LR.v (Y.subi rfl rfl rfl (by omega)) (Wd.g rfl rfl rfl) rfl rfl ?_
                      refine LR.v (Y.gtr rfl rfl rfl) (Wd.g rfl rfl rfl) rfl rfl ?_
                      refine LR.v (Y.pick_f rfl rfl rfl) (Wd.u rfl) rfl rfl ?_
                      refine LR.v (Y.assign rfl rfl) (Wd.u rfl) rfl rfl ?_
                      refine LR.nil ?_
                      refine hK55 _ _ ?_
                      refine CW.condp rfl (fun c91 => ?_) (fun c91 => ?_)
                      ·
                        refine CW.seq (fun K57 hK57 hE57 => ?_)
                        refine CW.region ?_
                        refine LR.v (Y.assign rfl rfl) (Wd.u rfl) rfl rfl ?_
                        refine LR.v (Y.assign rfl rfl) (Wd.u rfl) rfl rfl ?_
                        refine LR.nil ?_
                        refine hK57 _ _ ?_
                        refine CW.ret (hE52 .ret nofun (by simp) _ _ (hE51 .ret nofun _ _ (hE16 .ret nofun (by simp) _ _ (hE15 .ret nofun _ _ (hE14 .ret nofun (by simp) _ _ (hE13 .ret nofun _ _ (hE2 .ret nofun nofun _ _ (hret .ret (.inr rfl) _ _ _ (res2 rfl rfl rfl) ?_))))))))
                        exact ⟨_, 0, [], _, rfl, Qr.nil _ _ _, Nx.refl _ _, by first | (rw [← hap, apf_i12 (hT c86)]; done) | (rw [← hap, apf_c1 (by omega)]; done) | (rw [← hap, apf_c2 (by omega) (by rw [hA, hB]; unfold bad1; omega)]; done) | (rw [← hap, apf_i1 (by omega)]; done) | (rw [← hap, apf_i2 (by omega) (by omega)]; done) | (rw [← hap, apf_i3 (by omega) (by rw [hB]; omega) (by rw [hB]; omega)]; done) | (rw [← hap, apf_o (fun e => c40 (by rw [e]; rfl)) (fun e => c79 (by rw [e]; rfl))]; done) | (rw [← hap, if_neg (by omega)]; done), hm0⟩
                      ·
                        refine CW.skip ?_
                        refine hK52 _ _ ?_
                        refine hK51 _ _ ?_
                        refine CW.region ?_
                        refine LR.v (Y.move rfl rfl) (Wd.u rfl) rfl rfl ?_
                        refine LR.v (Y.move rfl rfl) (Wd.u rfl) rfl rfl ?_
                        refine LR.z (Z.apnd ow9 rd78 rfl inf22 rfl rfl (by first | omega | (simp; omega) | (simp [slc]; omega)) (by first | omega | (simp; omega) | (simp [slc]; omega))) (Wd.u rfl) rfl rfl (fun v104 H104 r104 => ?_)
                        obtain ⟨k104, ow104, hk104, hs104⟩ := r104
                        replace hk104 : Nx ko H45.size k104 := hk104
                        replace hs104 := hs104.md
                        have df23 := DF.app (df4) (bf_hb.mono hm0.size) hk104
                        have df24 := DF.app (df5) (bf_hd.mono hm0.size) hk104
                        have df25 := DF.app (df6) (bf_hcd.mono hm0.size) hk104
                        have dj26 : Dj (H0.size + 1) k104 := Dj.app (dj8.symm) hc.lt hk104
                        have df27 := DF.app (df4) (bf_rd78.mono hm0.size) hk104
                        have nx28 : Nx 0 H0.size k104 := Nx.tr (nx7) hk104 hm0.size
                        have nx29 : Nx 0 H19.size k104 := Nx.tr (nx9) hk104 hlm1.size
                        replace hb := hb.upL hs104 (DFL.cons df4 DFL.nil)
                        replace hd := hd.upL hs104 (DFL.cons df5 DFL.nil)
                        replace hcd := hcd.upL hs104 (DFL.cons df6 DFL.nil)
                        replace hc := hc.upL hs104 (DL.cons dj8.symm DL.nil)
                        replace rd78 := rd78.upL hs104 (DFL.cons df4 DFL.nil)
                        replace hm0 := (Mo.trL (ks := []) (hm0.mdn []) hs104 (MIL.cons (MI.app MI.z (nx7) (Nat.le_refl _)) MIL.nil)).nil
                        replace hlm1 := hlm1.trL hs104 (MIL.cons (MI.app MI.z (nx9) (Nat.le_refl _)) MIL.nil)
                        have hz11 := hs104.size
                        have hle_ow104 := ow104.le
                        refine LR.v (Y.assign rfl rfl) (Wd.u rfl) rfl rfl ?_
                        refine LR.nil ?_
                        refine hK16 _ _ ?_
                        have hnb : ¬ bad1 bs size out ma mb := by unfold bad1; omega
                        obtain ⟨hs1, hs2⟩ := hsl hnb
                        rw [hs1] at ow104
                        rw [apf_c3 (by omega) (by rw [hA, hB]; exact hnb), hA, hB] at hap
                        refine QN.sub (hN15 (v104, k104, out ++ slc bs ma mb, svc, t.drop 8) _ ?_ ?_) ⟨rfl, rfl, (iv (by omega)), rfl, trivial⟩
                        · exact ⟨ow104, hc, hcd, (by simp; omega), (by rw [List.length_append]; unfold bad1 at hnb; omega), hap, nx29, dj26.symm, hlm1⟩
                        · simp only [List.length_drop, List.length_cons]; omega
            ·
              first
              | exact absurd c69 (by decide)
              | skip
                refine CW.skip ?_
                refine hK27 _ _ ?_
                refine hK25 _ _ ?_
                refine CW.seq (fun K58 hK58 hE58 => ?_)
                refine CW.block (fun K59 hK59 hX59 hE59 => ?_)
                refine CW.seq (fun K60 hK60 hE60 => ?_)
                refine CW.region ?_
                refine LR.v (Y.move rfl rfl) (Wd.u rfl) rfl rfl ?_
                refine LR.v (Y.nilCheck rfl rfl) (Wd.u rfl) rfl rfl ?_
                refine LR.v (Y.fieldAddr hc.pt rfl Try.runUnderlying39 rfl rfl Try.sizeOf4 (by decide) rfl) (Wd.u rfl) rfl rfl ?_
                refine LR.v (Y.load1 (hc.pt.drop 1) rfl Try.isAgg4 rfl) (Wd.u rfl) rfl rfl ?_
                refine LR.v (Y.assign rfl rfl) (Wd.u rfl) rfl rfl ?_
                refine LR.nil ?_
                refine hK60 _ _ ?_
                refine CW.cond rfl (fun c86 => ?_) (fun c86 => ?_)
                ·
                  first
                  | exact absurd c86 (by decide)
                  | skip
                    refine CW.seq (fun K61 hK61 hE61 => ?_)
                    refine CW.region ?_
                    refine LR.v (Y.assign rfl rfl) (Wd.u rfl) rfl rfl ?_
                    refine LR.v (Y.assign rfl rfl) (Wd.u rfl) rfl rfl ?_
                    refine LR.nil ?_
                    refine hK61 _ _ ?_
                    refine CW.ret (hE59 .ret nofun (by simp) _ _ (hE58 .ret nofun _ _ (hE16 .ret nofun (by simp) _ _ (hE15 .ret nofun _ _ (hE14 .ret nofun (by simp) _ _ (hE13 .ret nofun _ _ (hE2 .ret nofun nofun _ _ (hret .ret (.inr rfl) _ _ _ (res2 rfl rfl rfl) ?_))))))))
                    exact ⟨_, 0, [], _, rfl, Qr.nil _ _ _, Nx.refl _ _, by first | (rw [← hap, apf_i12 (hT c86)]; done) | (rw [← hap, apf_c1 (by omega)]; done) | (rw [← hap, apf_c2 (by omega) (by rw [hA, hB]; unfold bad1; omega)]; done) | (rw [← hap, apf_i1 (by omega)]; done) | (rw [← hap, apf_i2 (by omega) (by omega)]; done) | (rw [← hap, apf_i3 (by omega) (by rw [hB]; omega) (by rw [hB]; omega)]; done) | (rw [← hap, apf_o (fun e => c40 (by rw [e]; rfl)) (fun e => c79 (by rw [e]; rfl))]; done) | (rw [← hap, if_neg (by omega)]; done), hm0⟩
                ·
                  first
                  | exact absurd c86 (by decide)
                  | skip
                    try (subst c86)
                    try (have hq0 := ht2; obtain ⟨hF4, hB, hn4, rfl, rfl⟩ := hF rfl)
                    refine CW.seq (fun K62 hK62 hE62 => ?_)
                    refine CW.region ?_
                    refine LR.v (Y.move rfl rfl) (Wd.u rfl) rfl rfl ?_
                    refine LR.v (Y.eql rfl rfl rfl) (Wd.u rfl) rfl rfl ?_
                    refine LR.v (Y.move rfl rfl) (Wd.u rfl) rfl rfl ?_
                    refine LR.splitp (d := 94) rfl (fun g94 => ?_) (fun g94 => ?_)
                    ·
                      refine LR.gs rfl rfl rfl rfl rfl rfl ?_
                      refine LR.gs rfl rfl rfl rfl rfl rfl ?_
                      refine LR.gs rfl rfl rfl rfl rfl rfl ?_
                      refine LR.gs rfl rfl rfl rfl rfl rfl ?_
                      refine LR.gs rfl rfl rfl rfl rfl rfl ?_
                      refine LR.gs rfl rfl rfl rfl rfl rfl ?_
                      refine LR.v (Y.pick_t rfl rfl rfl) (Wd.u rfl) rfl rfl ?_
                      refine LR.v (Y.assign rfl rfl) (Wd.u rfl) rfl rfl ?_
                      refine LR.nil ?_
                      refine hK62 _ _ ?_
                      refine CW.cond_t rfl ?_
                      refine CW.seq (fun K63 hK63 hE63 => ?_)
                      refine CW.region ?_
                      refine LR.v (Y.assign rfl rfl) (Wd.u rfl) rfl rfl ?_
                      refine LR.v (Y.assign rfl rfl) (Wd.u rfl) rfl rfl ?_
                      refine LR.nil ?_
                      refine hK63 _ _ ?_
                      refine CW.ret (hE59 .ret nofun (by simp) _ _ (hE58 .ret nofun _ _ (hE16 .ret nofun (by simp) _ _ (hE15 .ret nofun _ _ (hE14 .ret nofun (by simp) _ _ (hE13 .ret nofun _ _ (hE2 .ret nofun nofun _ _ (hret .ret (.inr rfl) _ _ _ (res2 rfl rfl rfl) ?_))))))))
                      exact ⟨_, 0, [], _, rfl, Qr.nil _ _ _, Nx.refl _ _, by first | (rw [← hap, apf_i12 (hT c86)]; done) | (rw [← hap, apf_c1 (by omega)]; done) | (rw [← hap, apf_c2 (by omega) (by rw [hA, hB]; unfold bad1; omega)]; done) | (rw [← hap, apf_i1 (by omega)]; done) | (rw [← hap, apf_i2 (by omega) (by omega)]; done) | (rw [← hap, apf_i3 (by omega) (by rw [hB]; omega) (by rw [hB]; omega)]; done) | (rw [← hap, apf_o (fun e => c40 (by rw [e]; rfl)) (fun e => c79 (by rw [e]; rfl))]; done) | (rw [← hap, if_neg (by omega)]; done), hm0⟩
                    ·
                      refine LR.v (Y.move rfl rfl) (Wd.g rfl rfl rfl) rfl rfl ?_
                      refine LR.v (Y.move rfl rfl) (Wd.g rfl rfl rfl) rfl rfl ?_
                      refine LR.v (Y.move rfl rfl) (Wd.g rfl rfl rfl) rfl rfl ?_
                      refine LR.v (Y.len ow9.rd rfl Try.runUnderlying22 rfl) (Wd.g rfl rfl rfl) rfl rfl ?_
                      refine LR.v (Y.subi rfl rfl rfl (by omega)) (Wd.g rfl rfl rfl) rfl rfl ?_
                      refine LR.v (Y.gtr rfl rfl rfl) (Wd.g rfl rfl rfl) rfl rfl ?_
                      refine LR.v (Y.pick_f rfl rfl rfl) (Wd.u rfl) rfl rfl ?_
                      refine LR.v (Y.assign rfl rfl) (Wd.u rfl) rfl rfl ?_
                      refine LR.nil ?_
                      refine hK62 _ _ ?_
                      refine CW.condp rfl (fun c91 => ?_) (fun c91 => ?_)
                      ·
                        refine CW.seq (fun K64 hK64 hE64 => ?_)
                        refine CW.region ?_
                        refine LR.v (Y.assign rfl rfl) (Wd.u rfl) rfl rfl ?_
                        refine LR.v (Y.assign rfl rfl) (Wd.u rfl) rfl rfl ?_
                        refine LR.nil ?_
                        refine hK64 _ _ ?_
                        refine CW.ret (hE59 .ret nofun (by simp) _ _ (hE58 .ret nofun _ _ (hE16 .ret nofun (by simp) _ _ (hE15 .ret nofun _ _ (hE14 .ret nofun (by simp) _ _ (hE13 .ret nofun _ _ (hE2 .ret nofun nofun _ _ (hret .ret (.inr rfl) _ _ _ (res2 rfl rfl rfl) ?_))))))))
                        exact ⟨_, 0, [], _, rfl, Qr.nil _ _ _, Nx.refl _ _, by first | (rw [← hap, apf_i12 (hT c86)]; done) | (rw [← hap, apf_c1 (by omega)]; done) | (rw [← hap, apf_c2 (by omega) (by rw [hA, hB]; unfold bad1; omega)]; done) | (rw [← hap, apf_i1 (by omega)]; done) | (rw [← hap, apf_i2 (by omega) (by omega)]; done) | (rw [← hap, apf_i3 (by omega) (by rw [hB]; omega) (by rw [hB]; omega)]; done) | (rw [← hap, apf_o (fun e => c40 (by rw [e]; rfl)) (fun e => c79 (by rw [e]; rfl))]; done) | (rw [← hap, if_neg (by omega)]; done), hm0⟩
                      ·
                        refine CW.skip ?_
                        refine hK59 _ _ ?_
                        refine hK58 _ _ ?_
                        refine CW.region ?_
                        refine LR.v (Y.move rfl rfl) (Wd.u rfl) rfl rfl ?_
                        refine LR.v (Y.move rfl rfl) (Wd.u rfl) rfl rfl ?_
                        refine LR.z (Z.apnd ow9 NOFACT rfl inf22 rfl rfl (by first | omega | (simp; omega) | (simp [slc]; omega)) (by first | omega | (simp; omega) | (simp [slc]; omega))) (Wd.u rfl) rfl rfl (fun v104 H104 r104 => ?_)
                        obtain ⟨k104, ow104, hk104, hs104⟩ := r104
                        replace hk104 : Nx ko H45.size k104 := hk104
                        replace hs104 := hs104.md
                        have df30 := DF.app (df4) (bf_hb.mono hm0.size) hk104
                        have df31 := DF.app (df5) (bf_hd.mono hm0.size) hk104
                        have df32 := DF.app (df6) (bf_hcd.mono hm0.size) hk104
                        have dj33 : Dj (H0.size + 1) k104 := Dj.app (dj8.symm) hc.lt hk104
                        have nx34 : Nx 0 H0.size k104 := Nx.tr (nx7) hk104 hm0.size
                        have nx35 : Nx 0 H19.size k104 := Nx.tr (nx9) hk104 hlm1.size
                        replace hb := hb.upL hs104 (DFL.cons df4 DFL.nil)
                        replace hd := hd.upL hs104 (DFL.cons df5 DFL.nil)
                        replace hcd := hcd.upL hs104 (DFL.cons df6 DFL.nil)
                        replace hc := hc.upL hs104 (DL.cons dj8.symm DL.nil)
                        replace hm0 := (Mo.trL (ks := []) (hm0.mdn []) hs104 (MIL.cons (MI.app MI.z (nx7) (Nat.le_refl _)) MIL.nil)).nil
                        replace hlm1 := hlm1.trL hs104 (MIL.cons (MI.app MI.z (nx9) (Nat.le_refl _)) MIL.nil)
                        have hz12 := hs104.size
                        have hle_ow104 := ow104.le
                        refine LR.v (Y.assign rfl rfl) (Wd.u rfl) rfl rfl ?_
                        refine LR.nil ?_
                        refine hK16 _ _ ?_
                        refine QN.sub (hN15 (v104, k104, out, svc, t) _ ?_ ?_) ⟨rfl, rfl, (iv (by omega)), rfl, trivial⟩
                        · exact ⟨ow9, hc, hcd, (by omega), (by omega), (by omega), (by assumption), (by assumption), hlm1⟩
                        · first | omega | (simp only; omega) | (simp; omega)
        ·
          refine CW.seq (fun K65 hK65 hE65 => ?_)
          refine CW.region ?_
          refine LR.v (Y.eql rfl rfl rfl) (Wd.u rfl) rfl rfl ?_
          refine LR.v (Y.assign rfl rfl) (Wd.u rfl) rfl rfl ?_
          refine LR.nil ?_
          refine hK65 _ _ ?_
          refine CW.condp rfl (fun c79 => ?_) (fun c79 => ?_)
          ·
            rw [show x = 2 from u8n (n := 2) (by decide) (by omega)] at hap
            refine CW.seq (fun K66 hK66 hE66 => ?_)
            refine CW.region ?_
            refine LR.v (Y.move rfl rfl) (Wd.u rfl) rfl rfl ?_
            -- call (*selvage/delta.cursor).number
            refine LR.call rfl Try.call13 rfl (Wd.u rfl) rfl rfl (cnum_ct H0.size _ sva t false w0 _ hc hcd (bf_hcd.mono hm0.size) (df2)) (fun v82 H82 r82 => ?_)
            obtain ⟨svb, mb, rb, cb, rfl, hc, hcd, hm4rb, hk1rb, hk2rb, hs82⟩ := r82
            replace hb := hb.upL hs82 (DFL.cons df1 DFL.nil)
            replace hd := hd.upL hs82 (DFL.cons df2 DFL.nil)
            replace ow9 := ow9.upL hs82 (DL.cons dj8 DL.nil)
            replace hm0 := (Mo.trL (ks := []) (hm0.mdn []) hs82 (MIL.cons (MI.app MI.z (nx3) (Nat.le_refl _)) MIL.nil)).nil
            replace hlm1 := hlm1.trL hs82 (MIL.cons (MI.app (MI.root (by simp)) (nx_hlm1_hc) (Nat.le_refl _)) MIL.nil)
            have hz13 := hs82.size
            have bf_hcd := bf_hcd
            refine LR.v (Y.assign rfl rfl) (Wd.u rfl) rfl rfl ?_
            refine LR.nil ?_
            refine hK66 _ _ ?_
            refine CW.region ?_
            refine LR.v (Y.move rfl rfl) (Wd.u rfl) rfl rfl ?_
            refine LR.v (Y.move rfl rfl) (Wd.u rfl) rfl rfl ?_
            -- call (*selvage/delta.cursor).take
            refine LR.call rfl Try.call14 rfl (Wd.u rfl) rfl rfl (take_ct H0.size _ svb rb cb mb w0 _ hc hcd (bf_hcd.mono hm0.size) (df2) (by omega)) (fun v85 H85 r85 => ?_)
            obtain ⟨v85, svc, tk2, rc, cc, rfl, hc, hcd, ht2, hk1rc, hk2rc, hs85⟩ := r85
            replace hb := hb.upL hs85 (DFL.cons df1 DFL.nil)
            replace hd := hd.upL hs85 (DFL.cons df2 DFL.nil)
            replace ow9 := ow9.upL hs85 (DL.cons dj8 DL.nil)
            replace hm0 := (Mo.trL (ks := []) (hm0.mdn []) hs85 (MIL.cons (MI.app MI.z (nx3) (Nat.le_refl _)) MIL.nil)).nil
            replace hlm1 := hlm1.trL hs85 (MIL.cons (MI.app (MI.root (by simp)) (nx_hlm1_hc) (Nat.le_refl _)) MIL.nil)
            have hz14 := hs85.size
            have bf_hcd := bf_hcd
            have bf_ht2 := bf_hcd
            obtain ⟨hT, hF⟩ := numtake hk1rb hk2rb hk1rc hk2rc
            refine LR.v (Y.assign rfl rfl) (Wd.u rfl) rfl rfl ?_
            refine LR.nil ?_
            refine hK27 _ _ ?_
            refine hK25 _ _ ?_
            refine CW.seq (fun K67 hK67 hE67 => ?_)
            refine CW.block (fun K68 hK68 hX68 hE68 => ?_)
            refine CW.seq (fun K69 hK69 hE69 => ?_)
            refine CW.region ?_
            refine LR.v (Y.move rfl rfl) (Wd.u rfl) rfl rfl ?_
            refine LR.v (Y.nilCheck rfl rfl) (Wd.u rfl) rfl rfl ?_
            refine LR.v (Y.fieldAddr hc.pt rfl Try.runUnderlying39 rfl rfl Try.sizeOf4 (by decide) rfl) (Wd.u rfl) rfl rfl ?_
            refine LR.v (Y.load1 (hc.pt.drop 1) rfl Try.isAgg4 rfl) (Wd.u rfl) rfl rfl ?_
            refine LR.v (Y.assign rfl rfl) (Wd.u rfl) rfl rfl ?_
            refine LR.nil ?_
            refine hK69 _ _ ?_
            refine CW.cond rfl (fun c86 => ?_) (fun c86 => ?_)
            ·
              first
              | exact absurd c86 (by decide)
              | skip
                refine CW.seq (fun K70 hK70 hE70 => ?_)
                refine CW.region ?_
                refine LR.v (Y.assign rfl rfl) (Wd.u rfl) rfl rfl ?_
                refine LR.v (Y.assign rfl rfl) (Wd.u rfl) rfl rfl ?_
                refine LR.nil ?_
                refine hK70 _ _ ?_
                refine CW.ret (hE68 .ret nofun (by simp) _ _ (hE67 .ret nofun _ _ (hE16 .ret nofun (by simp) _ _ (hE15 .ret nofun _ _ (hE14 .ret nofun (by simp) _ _ (hE13 .ret nofun _ _ (hE2 .ret nofun nofun _ _ (hret .ret (.inr rfl) _ _ _ (res2 rfl rfl rfl) ?_))))))))
                exact ⟨_, 0, [], _, rfl, Qr.nil _ _ _, Nx.refl _ _, by first | (rw [← hap, apf_i12 (hT c86)]; done) | (rw [← hap, apf_c1 (by omega)]; done) | (rw [← hap, apf_c2 (by omega) (by rw [hA, hB]; unfold bad1; omega)]; done) | (rw [← hap, apf_i1 (by omega)]; done) | (rw [← hap, apf_i2 (by omega) (by omega)]; done) | (rw [← hap, apf_i3 (by omega) (by rw [hB]; omega) (by rw [hB]; omega)]; done) | (rw [← hap, apf_o (fun e => c40 (by rw [e]; rfl)) (fun e => c79 (by rw [e]; rfl))]; done) | (rw [← hap, if_neg (by omega)]; done), hm0⟩
            ·
              first
              | exact absurd c86 (by decide)
              | skip
                try (subst c86)
                try (have hq0 := ht2; obtain ⟨hF4, hB, hn4, rfl, rfl⟩ := hF rfl)
                refine CW.seq (fun K71 hK71 hE71 => ?_)
                refine CW.region ?_
                refine LR.v (Y.move rfl rfl) (Wd.u rfl) rfl rfl ?_
                refine LR.v (Y.eql rfl rfl rfl) (Wd.u rfl) rfl rfl ?_
                refine LR.v (Y.move rfl rfl) (Wd.u rfl) rfl rfl ?_
                refine LR.splitp (d := 94) rfl (fun g94 => ?_) (fun g94 => ?_)
                ·
                  refine LR.gs rfl rfl rfl rfl rfl rfl ?_
                  refine LR.gs rfl rfl rfl rfl rfl rfl ?_
                  refine LR.gs rfl rfl rfl rfl rfl rfl ?_
                  refine LR.gs rfl rfl rfl rfl rfl rfl ?_
                  refine LR.gs rfl rfl rfl rfl rfl rfl ?_
                  refine LR.gs rfl rfl rfl rfl rfl rfl ?_
                  refine LR.v (Y.pick_t rfl rfl rfl) (Wd.u rfl) rfl rfl ?_
                  refine LR.v (Y.assign rfl rfl) (Wd.u rfl) rfl rfl ?_
                  refine LR.nil ?_
                  refine hK71 _ _ ?_
                  refine CW.cond_t rfl ?_
                  refine CW.seq (fun K72 hK72 hE72 => ?_)
                  refine CW.region ?_
                  refine LR.v (Y.assign rfl rfl) (Wd.u rfl) rfl rfl ?_
                  refine LR.v (Y.assign rfl rfl) (Wd.u rfl) rfl rfl ?_
                  refine LR.nil ?_
                  refine hK72 _ _ ?_
                  refine CW.ret (hE68 .ret nofun (by simp) _ _ (hE67 .ret nofun _ _ (hE16 .ret nofun (by simp) _ _ (hE15 .ret nofun _ _ (hE14 .ret nofun (by simp) _ _ (hE13 .ret nofun _ _ (hE2 .ret nofun nofun _ _ (hret .ret (.inr rfl) _ _ _ (res2 rfl rfl rfl) ?_))))))))
                  exact ⟨_, 0, [], _, rfl, Qr.nil _ _ _, Nx.refl _ _, by first | (rw [← hap, apf_i12 (hT c86)]; done) | (rw [← hap, apf_c1 (by omega)]; done) | (rw [← hap, apf_c2 (by omega) (by rw [hA, hB]; unfold bad1; omega)]; done) | (rw [← hap, apf_i1 (by omega)]; done) | (rw [← hap, apf_i2 (by omega) (by omega)]; done) | (rw [← hap, apf_i3 (by omega) (by rw [hB]; omega) (by rw [hB]; omega)]; done) | (rw [← hap, apf_o (fun e => c40 (by rw [e]; rfl)) (fun e => c79 (by rw [e]; rfl))]; done) | (rw [← hap, if_neg (by omega)]; done), hm0⟩
                ·
                  refine LR.v (Y.move rfl rfl) (Wd.g rfl rfl rfl) rfl rfl ?_
                  refine LR.v (Y.move rfl rfl) (Wd.g rfl rfl rfl) rfl rfl ?_
                  refine LR.v (Y.move rfl rfl) (Wd.g rfl rfl rfl) rfl rfl ?_
                  refine LR.v (Y.len ow9.rd rfl Try.runUnderlying22 rfl) (Wd.g rfl rfl rfl) rfl rfl ?_
                  refine LR.v (Y.subi rfl rfl rfl (by omega)) (Wd.g rfl rfl rfl) rfl rfl ?_
                  refine LR.v (Y.gtr rfl rfl rfl) (Wd.g rfl rfl rfl) rfl rfl ?_
                  refine LR.v (Y.pick_f rfl rfl rfl) (Wd.u rfl) rfl rfl ?_
                  refine LR.v (Y.assign rfl rfl) (Wd.u rfl) rfl rfl ?_
                  refine LR.nil ?_
                  refine hK71 _ _ ?_
                  refine CW.condp rfl (fun c91 => ?_) (fun c91 => ?_)
                  ·
                    refine CW.seq (fun K73 hK73 hE73 => ?_)
                    refine CW.region ?_
                    refine LR.v (Y.assign rfl rfl) (Wd.u rfl) rfl rfl ?_
                    refine LR.v (Y.assign rfl rfl) (Wd.u rfl) rfl rfl ?_
                    refine LR.nil ?_
                    refine hK73 _ _ ?_
                    refine CW.ret (hE68 .ret nofun (by simp) _ _ (hE67 .ret nofun _ _ (hE16 .ret nofun (by simp) _ _ (hE15 .ret nofun _ _ (hE14 .ret nofun (by simp) _ _ (hE13 .ret nofun _ _ (hE2 .ret nofun nofun _ _ (hret .ret (.inr rfl) _ _ _ (res2 rfl rfl rfl) ?_))))))))
                    exact ⟨_, 0, [], _, rfl, Qr.nil _ _ _, Nx.refl _ _, by first | (rw [← hap, apf_i12 (hT c86)]; done) | (rw [← hap, apf_c1 (by omega)]; done) | (rw [← hap, apf_c2 (by omega) (by rw [hA, hB]; unfold bad1; omega)]; done) | (rw [← hap, apf_i1 (by omega)]; done) | (rw [← hap, apf_i2 (by omega) (by omega)]; done) | (rw [← hap, apf_i3 (by omega) (by rw [hB]; omega) (by rw [hB]; omega)]; done) | (rw [← hap, apf_o (fun e => c40 (by rw [e]; rfl)) (fun e => c79 (by rw [e]; rfl))]; done) | (rw [← hap, if_neg (by omega)]; done), hm0⟩
                  ·
                    refine CW.skip ?_
                    refine hK68 _ _ ?_
                    refine hK67 _ _ ?_
                    refine CW.region ?_
                    refine LR.v (Y.move rfl rfl) (Wd.u rfl) rfl rfl ?_
                    refine LR.v (Y.move rfl rfl) (Wd.u rfl) rfl rfl ?_
                    refine LR.z (Z.apnd ow9 ht2 rfl inf22 rfl rfl (by first | omega | (simp; omega) | (simp [slc]; omega)) (by first | omega | (simp; omega) | (simp [slc]; omega))) (Wd.u rfl) rfl rfl (fun v104 H104 r104 => ?_)
                    obtain ⟨k104, ow104, hk104, hs104⟩ := r104
                    replace hk104 : Nx ko H85.size k104 := hk104
                    replace hs104 := hs104.md
                    have df36 := DF.app (df4) (bf_hb.mono hm0.size) hk104
                    have df37 := DF.app (df5) (bf_hd.mono hm0.size) hk104
                    have df38 := DF.app (df6) (bf_hcd.mono hm0.size) hk104
                    have dj39 : Dj (H0.size + 1) k104 := Dj.app (dj8.symm) hc.lt hk104
                    have df40 := DF.app (df6) (bf_ht2.mono hm0.size) hk104
                    have nx41 : Nx 0 H0.size k104 := Nx.tr (nx7) hk104 hm0.size
                    have nx42 : Nx 0 H19.size k104 := Nx.tr (nx9) hk104 hlm1.size
                    replace hb := hb.upL hs104 (DFL.cons df4 DFL.nil)
                    replace hd := hd.upL hs104 (DFL.cons df5 DFL.nil)
                    replace hcd := hcd.upL hs104 (DFL.cons df6 DFL.nil)
                    replace hc := hc.upL hs104 (DL.cons dj8.symm DL.nil)
                    replace ht2 := ht2.upL hs104 (DFL.cons df6 DFL.nil)
                    replace hm0 := (Mo.trL (ks := []) (hm0.mdn []) hs104 (MIL.cons (MI.app MI.z (nx7) (Nat.le_refl _)) MIL.nil)).nil
                    replace hlm1 := hlm1.trL hs104 (MIL.cons (MI.app MI.z (nx9) (Nat.le_refl _)) MIL.nil)
                    have hz15 := hs104.size
                    have hle_ow104 := ow104.le
                    refine LR.v (Y.assign rfl rfl) (Wd.u rfl) rfl rfl ?_
                    refine LR.nil ?_
                    refine hK16 _ _ ?_
                    rw [apf_i4 (by omega) (by omega) (by rw [hB]; omega), hB] at hap
                    have hs2 := slc_len t 4 mb (by omega)
                    refine QN.sub (hN15 (v104, k104, out ++ slc t 4 mb, svc, t.drop (4 + mb)) _ ?_ ?_) ⟨rfl, rfl, (iv (by omega)), rfl, trivial⟩
                    · exact ⟨ow104, hc, hcd, (by simp; omega), (by rw [List.length_append]; omega), hap, nx42, dj39.symm, hlm1⟩
                    · simp only [List.length_drop, List.length_cons]; omega
          ·
            refine CW.seq (fun K74 hK74 hE74 => ?_)
            refine CW.region ?_
            refine LR.v (Y.assign rfl rfl) (Wd.u rfl) rfl rfl ?_
            refine LR.v (Y.assign rfl rfl) (Wd.u rfl) rfl rfl ?_
            refine LR.nil ?_
            refine hK74 _ _ ?_
            refine CW.ret (hE27 .ret nofun (by simp) _ _ (hE25 .ret nofun _ _ (hE16 .ret nofun (by simp) _ _ (hE15 .ret nofun _ _ (hE14 .ret nofun (by simp) _ _ (hE13 .ret nofun _ _ (hE2 .ret nofun nofun _ _ (hret .ret (.inr rfl) _ _ _ (res2 rfl rfl rfl) ?_))))))))
            exact ⟨_, 0, [], _, rfl, Qr.nil _ _ _, Nx.refl _ _, by first | (rw [← hap, apf_i12 (hT c86)]; done) | (rw [← hap, apf_c1 (by omega)]; done) | (rw [← hap, apf_c2 (by omega) (by rw [hA, hB]; unfold bad1; omega)]; done) | (rw [← hap, apf_i1 (by omega)]; done) | (rw [← hap, apf_i2 (by omega) (by omega)]; done) | (rw [← hap, apf_i3 (by omega) (by rw [hB]; omega) (by rw [hB]; omega)]; done) | (rw [← hap, apf_o (fun e => c40 (by rw [e]; rfl)) (fun e => c79 (by rw [e]; rfl))]; done) | (rw [← hap, if_neg (by omega)]; done), hm0⟩

end Go.Proofs.Ytjkjdpainenofaa.DelF
