/-
  The contract of DeltaSteps.
-/
import Derived.Test.YtjkjdpainenofaaDelJ
namespace Go.Proofs.Ytjkjdpainenofaa.DelK
open Go.Proofs.Ytjkjdpainenofaa.E Go.RowKit Go.Proofs.Ytjkjdpainenofaa.Num Go.Proofs.Ytjkjdpainenofaa.DelA Go.Proofs.Ytjkjdpainenofaa.DelB Go.Proofs.Ytjkjdpainenofaa.DelC Go.Proofs.Ytjkjdpainenofaa.DelD Go.Proofs.Ytjkjdpainenofaa.DelE Go.Proofs.Ytjkjdpainenofaa.DelF Go.Proofs.Ytjkjdpainenofaa.DelG Go.Proofs.Ytjkjdpainenofaa.DelH Go.Proofs.Ytjkjdpainenofaa.DelI Go.Proofs.Ytjkjdpainenofaa.DelJ
set_option linter.unusedVariables false
set_option linter.unusedSimpArgs false
set_option linter.unusedSectionVars false
theorem inf22 : Inf Try.prog 22 5 1 1 := ⟨Try.underlying22, _, _, rfl, rfl, rfl, rfl, rfl⟩

theorem tdb (a b : Int) (hb : b = 2 ∨ b = 7) (h : -9223372036854775808 ≤ a ∧ a ≤ 9223372036854775807) : -9223372036854775808 ≤ a.tdiv b ∧ a.tdiv b ≤ 9223372036854775807 := by
  rcases Int.le_total 0 a with h0 | h0
  · rw [Int.tdiv_eq_ediv_of_nonneg h0]; rcases hb with rfl | rfl <;> omega
  · have e : a.tdiv b = -((-a).tdiv b) := by rw [Int.neg_tdiv, Int.neg_neg]
    rw [e, Int.tdiv_eq_ediv_of_nonneg (show 0 ≤ -a by omega)]
    rcases hb with rfl | rfl <;> omega
/-- the steps so far, done -/
def Done (bs want body : List UInt8) : Prop := ∀ size rest, want.length ≤ size → apf bs size [] (body ++ rest) = apf bs size want rest
theorem Done.cp {bs want body : List UInt8} {a n : Nat} (h : Done bs want body) (hn : 1 ≤ n) (ha : a + n ≤ bs.length) (hb : bs.length ≤ 65535) : Done bs (want ++ slc bs a n) (body ++ cp a n) := by
  intro size rest hs
  have hl := slc_len bs a n ha
  rw [List.length_append, hl] at hs
  rw [List.append_assoc, h size _ (by omega), apf_cp (by omega) (by omega) (by unfold bad1; omega)]
theorem Done.ins {bs want body m : List UInt8} (h : Done bs want body) (hn : 1 ≤ m.length) (hb : m.length ≤ 65535) : Done bs (want ++ m) (body ++ (2 :: be32 m.length ++ m)) := by
  intro size rest hs
  rw [List.length_append] at hs
  rw [List.append_assoc, h size _ (by omega), apf_in (by omega) (by omega)]
theorem Done.all {bs want body : List UInt8} (h : Done bs want body) (hb : bs.length ≤ 65535) (hw : want.length ≤ 1048576) : apt bs (be32 bs.length ++ (be32 want.length ++ body)) = (want, 0) := by
  have hl : ¬ (be32 bs.length ++ (be32 want.length ++ body)).length < 8 := by simp [be32_len]; omega
  rw [apt_go hl (by rw [tk4, bev_be32 _ (by omega)]), slc4, bev_be32 _ (by omega), dr8]
  have := h want.length [] (Nat.le_refl _)
  rw [List.append_nil] at this
  rw [this, apf_nil, if_pos rfl]
theorem cp_lit (a n : Nat) (ha : a < 65536) (hn : n < 65536) : cp a n = [1, 0, 0, UInt8.ofNat (a / 2 ^ 8), UInt8.ofNat a, 0, 0, UInt8.ofNat (n / 2 ^ 8), UInt8.ofNat n] := by rw [cp, be32_1 a ha, be32_1 n hn]; rfl
theorem be32_2 (n : Nat) (h : n < 16777216) : be32 n = [0, UInt8.ofNat (n / 2 ^ 16), UInt8.ofNat (n / 2 ^ 8), UInt8.ofNat n] := by
  rw [be32, show n / 2 ^ 24 = 0 by omega]; rfl

set_option maxHeartbeats 4000000 in
theorem deltaSteps_ct (v0 v1 v2 : Value) (bs : List UInt8) (al : List Int) (dl : List UInt8) (w0 : World) (H0 : Heap)
    (hb : RdT H0 fB 1 v0 bs) (ha : RdT H0 fI 1 v1 al) (hd : RdT H0 fB 1 v2 dl) (hal : ∀ x ∈ al, -9223372036854775808 ≤ x ∧ x ≤ 9223372036854775807) :
    Ct Try.prog w0 6 #[v0, v1, v2] H0 (fun r H2 => r = .bool true ∧ Nw H0 H2) := by
  refine Ct.enter (args := [v0, v1, v2]) Try.func6 rfl rfl rfl ?_
  intro Q0 hret
  have hm0 : Nw H0 H0 := Mo.refl _ _
  replace hb := hb.bnd
  have bf_hb := Rd.bf hb
  replace ha := ha.bnd
  have bf_ha := Rd.bf ha
  replace hd := hd.bnd
  have bf_hd := Rd.bf hd
  refine CW.seq (fun K1 hK1 hE1 => ?_)
  refine CW.region ?_
  refine LR.v (Y.assign rfl rfl) (Wd.u rfl) rfl rfl ?_
  refine LR.nil ?_
  refine hK1 _ _ ?_
  refine CW.seq (fun K2 hK2 hE2 => ?_)
  refine CW.seq (fun K3 hK3 hE3 => ?_)
  refine CW.region ?_
  -- call selvage/selvagelaw6.known
  refine LR.call rfl Try.call7 rfl (Wd.u rfl) rfl rfl (known_ct w0 _) (fun v16 H16 r16 => ?_)
  obtain ⟨rfl, hs16⟩ := r16
  replace hb := hb.nw hs16
  replace ha := ha.nw hs16
  replace hd := hd.nw hs16
  replace hm0 := hm0.tr hs16
  have hz1 := hs16.size
  refine LR.v (Y.not rfl rfl) (Wd.u rfl) rfl rfl ?_
  refine LR.nil ?_
  refine hK3 _ _ ?_
  refine CW.cond_f rfl ?_
  refine CW.skip ?_
  refine hK2 _ _ ?_
  refine CW.seq (fun K4 hK4 hE4 => ?_)
  refine CW.seq (fun K5 hK5 hE5 => ?_)
  refine CW.region ?_
  refine LR.v (Y.move rfl rfl) (Wd.u rfl) rfl rfl ?_
  refine LR.v (Y.len hb rfl Try.runUnderlying22 rfl) (Wd.u rfl) rfl rfl ?_
  refine LR.v (Y.gtr rfl rfl rfl) (Wd.u rfl) rfl rfl ?_
  refine LR.v (Y.move rfl rfl) (Wd.u rfl) rfl rfl ?_
  refine LR.splitp (d := 21) rfl (fun g21 => ?_) (fun g21 => ?_)
  ·
    refine LR.gs rfl rfl rfl rfl rfl rfl ?_
    refine LR.gs rfl rfl rfl rfl rfl rfl ?_
    refine LR.gs rfl rfl rfl rfl rfl rfl ?_
    refine LR.v (Y.pick_t rfl rfl rfl) (Wd.u rfl) rfl rfl ?_
    refine LR.v (Y.move rfl rfl) (Wd.u rfl) rfl rfl ?_
    refine LR.gs rfl rfl rfl rfl rfl rfl ?_
    refine LR.gs rfl rfl rfl rfl rfl rfl ?_
    refine LR.gs rfl rfl rfl rfl rfl rfl ?_
    refine LR.v (Y.pick_t rfl rfl rfl) (Wd.u rfl) rfl rfl ?_
    refine LR.nil ?_
    refine hK5 _ _ ?_
    refine CW.cond_t rfl ?_
    refine CW.seq (fun K6 hK6 hE6 => ?_)
    refine CW.region ?_
    refine LR.v (Y.assign rfl rfl) (Wd.u rfl) rfl rfl ?_
    refine LR.nil ?_
    refine hK6 _ _ ?_
    refine CW.ret (hE4 .ret nofun _ _ (hret .ret (.inr rfl) _ _ _ (res1 rfl rfl) ?_))
    exact ⟨rfl, hm0⟩
  ·
    refine LR.v (Y.move rfl rfl) (Wd.g rfl rfl rfl) rfl rfl ?_
    refine LR.v (Y.len hb rfl Try.runUnderlying22 rfl) (Wd.g rfl rfl rfl) rfl rfl ?_
    refine LR.v (Y.eql rfl rfl rfl) (Wd.g rfl rfl rfl) rfl rfl ?_
    refine LR.v (Y.pick_f rfl rfl rfl) (Wd.u rfl) rfl rfl ?_
    refine LR.v (Y.move rfl rfl) (Wd.u rfl) rfl rfl ?_
    refine LR.splitp (d := 26) rfl (fun g26 => ?_) (fun g26 => ?_)
    ·
      refine LR.gs rfl rfl rfl rfl rfl rfl ?_
      refine LR.gs rfl rfl rfl rfl rfl rfl ?_
      refine LR.gs rfl rfl rfl rfl rfl rfl ?_
      refine LR.v (Y.pick_t rfl rfl rfl) (Wd.u rfl) rfl rfl ?_
      refine LR.nil ?_
      refine hK5 _ _ ?_
      refine CW.cond_t rfl ?_
      refine CW.seq (fun K7 hK7 hE7 => ?_)
      refine CW.region ?_
      refine LR.v (Y.assign rfl rfl) (Wd.u rfl) rfl rfl ?_
      refine LR.nil ?_
      refine hK7 _ _ ?_
      refine CW.ret (hE4 .ret nofun _ _ (hret .ret (.inr rfl) _ _ _ (res1 rfl rfl) ?_))
      exact ⟨rfl, hm0⟩
    ·
      refine LR.v (Y.move rfl rfl) (Wd.g rfl rfl rfl) rfl rfl ?_
      refine LR.v (Y.len hd rfl Try.runUnderlying22 rfl) (Wd.g rfl rfl rfl) rfl rfl ?_
      refine LR.v (Y.gtr rfl rfl rfl) (Wd.g rfl rfl rfl) rfl rfl ?_
      refine LR.v (Y.pick_f rfl rfl rfl) (Wd.u rfl) rfl rfl ?_
      refine LR.nil ?_
      refine hK5 _ _ ?_
      refine CW.condp rfl (fun c30 => ?_) (fun c30 => ?_)
      ·
        refine CW.seq (fun K8 hK8 hE8 => ?_)
        refine CW.region ?_
        refine LR.v (Y.assign rfl rfl) (Wd.u rfl) rfl rfl ?_
        refine LR.nil ?_
        refine hK8 _ _ ?_
        refine CW.ret (hE4 .ret nofun _ _ (hret .ret (.inr rfl) _ _ _ (res1 rfl rfl) ?_))
        exact ⟨rfl, hm0⟩
      ·
        refine CW.skip ?_
        refine hK4 _ _ ?_
        refine CW.seq (fun K9 hK9 hE9 => ?_)
        refine CW.region ?_
        refine LR.v (Y.assign rfl rfl) (Wd.u rfl) rfl rfl ?_
        refine LR.v (Y.assign rfl rfl) (Wd.u rfl) rfl rfl ?_
        refine LR.nil ?_
        refine hK9 _ _ ?_
        refine CW.seq (fun K10 hK10 hE10 => ?_)
        refine CW.seq (fun K11 hK11 hE11 => ?_)
        refine CW.region ?_
        refine LR.v (Y.assign rfl rfl) (Wd.u rfl) rfl rfl ?_
        refine LR.nil ?_
        refine hK11 _ _ ?_
        refine CW.block (fun K12 hK12 hX12 hE12 => ?_)
        refine CW.loop (fun (s_ : (Nat) × (Value) × (Nat) × (List UInt8) × (Value) × (Nat) × (List UInt8)) => match s_ with | (i, vw, kw, want, vb, kb, body) => [(0, v0), (1, v1), (2, v2), (7, vw), (8, vb), (9, .int .i64 i)])
          (fun (s_ : (Nat) × (Value) × (Nat) × (List UInt8) × (Value) × (Nat) × (List UInt8)) (H : Heap) => match s_ with | (i, vw, kw, want, vb, kb, body) => (i ≤ 20) ∧ (Ow kw 5 H fB 1 vw want) ∧ (Ow kb 5 H fB 1 vb body) ∧ (want.length ≤ 2000 * i) ∧ (body.length ≤ 2009 * i) ∧ (Done bs want body) ∧ (Nx 0 H16.size kw) ∧ (Nx 0 H16.size kb) ∧ (Dj kw kb) ∧ Nw H16 H)
          (fun (s_ : (Nat) × (Value) × (Nat) × (List UInt8) × (Value) × (Nat) × (List UInt8)) => match s_ with | (i, vw, kw, want, vb, kb, body) => 20 - i) (0, .slice none 0 0, 0, [], .slice none 0 0, 0, []) ⟨rfl, rfl, rfl, rfl, rfl, rfl, trivial⟩ ?_ ?_
        ·
          exact ⟨(by omega), Ow.nil fB_len fB_one, Ow.nil fB_len fB_one, (Nat.zero_le _), (Nat.zero_le _), fun _ _ _ => rfl, Nx.refl _ _, Nx.refl _ _, Dj.z, Mo.refl _ _⟩
        rintro ⟨i, vw, kw, want, vb, kb, body⟩ HL1 hI1 K13 hN13 hE13
        obtain ⟨hi, ow7, ow8, hwl, hbl, hdn, nxl_ow7, nxl_ow8, dj_ow7_ow8, hlm1⟩ := hI1
        have df1 := DF.app (DF.z) (bf_hb.mono hm0.size) nxl_ow7
        have df2 := DF.app (DF.z) (bf_ha.mono hm0.size) nxl_ow7
        have df3 := DF.app (DF.z) (bf_hd.mono hm0.size) nxl_ow7
        have nx4 : Nx 0 H0.size kw := Nx.tr (Nx.refl 0 _) nxl_ow7 hm0.size
        have df5 := DF.app (DF.z) (bf_hb.mono hm0.size) nxl_ow8
        have df6 := DF.app (DF.z) (bf_ha.mono hm0.size) nxl_ow8
        have df7 := DF.app (DF.z) (bf_hd.mono hm0.size) nxl_ow8
        have nx8 : Nx 0 H0.size kb := Nx.tr (Nx.refl 0 _) nxl_ow8 hm0.size
        replace hb := hb.nw hlm1
        replace ha := ha.nw hlm1
        replace hd := hd.nw hlm1
        replace hm0 := hm0.tr hlm1
        have hz2 := hlm1.size
        have hle_ow7 := ow7.le
        have hle_ow8 := ow8.le
        have dj9 := dj_ow7_ow8
        have nx10 := nxl_ow7
        have nx11 := nxl_ow8
        refine CW.seq (fun K14 hK14 hE14 => ?_)
        refine CW.cut (fun (b : (Bool)) => [(0, v0), (1, v1), (2, v2), (7, vw), (8, vb), (9, .int .i64 i), (38, .bool b)])
          (fun (b : (Bool)) (H : Heap) => (b = true ↔ (i < al.length ∧ i < 20)) ∧ Nw HL1 H) (fun K15 hK15 hE15 => ?_) ?_
        ·
          have hcm15 : Nw HL1 HL1 := Mo.refl _ _
          refine CW.region ?_
          refine LR.v (Y.move rfl rfl) (Wd.u rfl) rfl rfl ?_
          refine LR.v (Y.move rfl rfl) (Wd.u rfl) rfl rfl ?_
          refine LR.v (Y.len ha rfl Try.runUnderlying31 rfl) (Wd.u rfl) rfl rfl ?_
          refine LR.v (Y.lss rfl rfl rfl) (Wd.u rfl) rfl rfl ?_
          refine LR.v (Y.move rfl rfl) (Wd.u rfl) rfl rfl ?_
          refine LR.splitp (d := 35) rfl (fun g35 => ?_) (fun g35 => ?_)
          ·
            refine LR.v (Y.move rfl rfl) (Wd.g rfl rfl rfl) rfl rfl ?_
            refine LR.v (Y.lss rfl rfl rfl) (Wd.g rfl rfl rfl) rfl rfl ?_
            refine LR.v (Y.pick_t rfl rfl rfl) (Wd.u rfl) rfl rfl ?_
            refine LR.nil ?_
            refine QN.sub (hK15 (decide ((i : Int) < 20)) _ ?_) ⟨rfl, rfl, rfl, rfl, rfl, (iv (by omega)), rfl, trivial⟩
            exact ⟨⟨fun h => ⟨by omega, by have := of_decide_eq_true h; omega⟩, fun h => decide_eq_true (by omega)⟩, hcm15⟩
          ·
            refine LR.gs rfl rfl rfl rfl rfl rfl ?_
            refine LR.gs rfl rfl rfl rfl rfl rfl ?_
            refine LR.v (Y.pick_f rfl rfl rfl) (Wd.u rfl) rfl rfl ?_
            refine LR.nil ?_
            refine QN.sub (hK15 false _ ?_) ⟨rfl, rfl, rfl, rfl, rfl, (iv (by omega)), rfl, trivial⟩
            exact ⟨⟨fun h => (by cases h), fun h => (by exfalso; omega)⟩, hcm15⟩
        ·
          intro b Hcutr7 hIcutr7
          obtain ⟨hb1, hlmcutr7⟩ := hIcutr7
          replace hb := hb.nw hlmcutr7
          replace ha := ha.nw hlmcutr7
          replace hd := hd.nw hlmcutr7
          replace ow7 := ow7.nw hlmcutr7
          replace ow8 := ow8.nw hlmcutr7
          replace hm0 := hm0.tr hlmcutr7
          replace hlm1 := hlm1.tr hlmcutr7
          have hz3 := hlmcutr7.size
          refine CW.cond rfl (fun c38 => ?_) (fun c38 => ?_)
          ·
            obtain ⟨hi1, hi3⟩ := hb1.1 c38
            refine CW.skip ?_
            refine hK14 _ _ ?_
            refine CW.seq (fun K16 hK16 hE16 => ?_)
            refine CW.block (fun K17 hK17 hX17 hE17 => ?_)
            refine CW.seq (fun K18 hK18 hE18 => ?_)
            refine CW.cut (fun (b2 : (Bool)) => [(0, v0), (1, v1), (2, v2), (7, vw), (8, vb), (9, .int .i64 i), (51, .bool b2)])
              (fun (b2 : (Bool)) (H : Heap) => (b2 = false → ¬ dl.length = 0) ∧ Nw Hcutr7 H) (fun K19 hK19 hE19 => ?_) ?_
            ·
              have hcm19 : Nw Hcutr7 Hcutr7 := Mo.refl _ _
              refine CW.region ?_
              refine LR.v (Y.move rfl rfl) (Wd.u rfl) rfl rfl ?_
              refine LR.v (Y.move rfl rfl) (Wd.u rfl) rfl rfl ?_
              refine LR.e (g := fun ad => .pointer (some ad)) (Y.indexAddr ha (i) rfl Try.runUnderlying31 Try.sizeOf3 rfl rfl (by first | rfl | omega) (by first | omega | (simp; omega) | (simp; done))) (Wd.u rfl) rfl rfl (fun ad43 pt43 => ?_)
              refine LR.v (Y.load1 pt43 rfl Try.isAgg3 rfl) (Wd.u rfl) rfl rfl ?_
              refine LR.v (Y.rem rfl rfl rfl (by omega)) (Wd.u rfl) rfl rfl ?_
              refine LR.v (Y.eql rfl rfl rfl) (Wd.u rfl) rfl rfl ?_
              refine LR.v (Y.move rfl rfl) (Wd.u rfl) rfl rfl ?_
              refine LR.splitp (d := 47) rfl (fun g47 => ?_) (fun g47 => ?_)
              ·
                refine LR.gs rfl rfl rfl rfl rfl rfl ?_
                refine LR.gs rfl rfl rfl rfl rfl rfl ?_
                refine LR.gs rfl rfl rfl rfl rfl rfl ?_
                refine LR.v (Y.pick_t rfl rfl rfl) (Wd.u rfl) rfl rfl ?_
                refine LR.nil ?_
                refine QN.sub (hK19 true _ ?_) ⟨rfl, rfl, rfl, rfl, rfl, (iv (by omega)), rfl, trivial⟩
                exact ⟨fun h => (by cases h), hcm19⟩
              ·
                refine LR.v (Y.move rfl rfl) (Wd.g rfl rfl rfl) rfl rfl ?_
                refine LR.v (Y.len hd rfl Try.runUnderlying22 rfl) (Wd.g rfl rfl rfl) rfl rfl ?_
                refine LR.v (Y.eql rfl rfl rfl) (Wd.g rfl rfl rfl) rfl rfl ?_
                refine LR.v (Y.pick_f rfl rfl rfl) (Wd.u rfl) rfl rfl ?_
                refine LR.nil ?_
                refine QN.sub (hK19 (decide ((dl.length : Int) = 0)) _ ?_) ⟨rfl, rfl, rfl, rfl, rfl, (iv (by omega)), rfl, trivial⟩
                exact ⟨fun h => (by have := of_decide_eq_false h; omega), hcm19⟩
            ·
              intro b2 Hcutr9 hIcutr9
              obtain ⟨hb2, hlmcutr9⟩ := hIcutr9
              replace hb := hb.nw hlmcutr9
              replace ha := ha.nw hlmcutr9
              replace hd := hd.nw hlmcutr9
              replace ow7 := ow7.nw hlmcutr9
              replace ow8 := ow8.nw hlmcutr9
              replace hm0 := hm0.tr hlmcutr9
              replace hlm1 := hlm1.tr hlmcutr9
              have hz4 := hlmcutr9.size
              refine CW.cond rfl (fun c51 => ?_) (fun c51 => ?_)
              ·
                refine CW.seq (fun K20 hK20 hE20 => ?_)
                refine CW.region ?_
                refine LR.v (Y.move rfl rfl) (Wd.u rfl) rfl rfl ?_
                refine LR.v (Y.move rfl rfl) (Wd.u rfl) rfl rfl ?_
                refine LR.e (g := fun ad => .pointer (some ad)) (Y.indexAddr ha (i) rfl Try.runUnderlying31 Try.sizeOf3 rfl rfl (by first | rfl | omega) (by first | omega | (simp; omega) | (simp; done))) (Wd.u rfl) rfl rfl (fun ad54 pt54 => ?_)
                refine LR.v (Y.load1 pt54 rfl Try.isAgg3 rfl) (Wd.u rfl) rfl rfl ?_
                refine LR.v (Y.cast (v2 := .int .i64 (al[i].tdiv 2)) (Y.quo rfl rfl rfl (by omega)) (ivv (IntWalk.i64_in _ (tdb _ 2 (by omega) (hal _ (List.getElem_mem _)))))) (Wd.u rfl) rfl rfl ?_
                refine LR.v (Y.move rfl rfl) (Wd.u rfl) rfl rfl ?_
                refine LR.v (Y.len hb rfl Try.runUnderlying22 rfl) (Wd.u rfl) rfl rfl ?_
                -- call selvage/selvagelaw6.within
                refine LR.call rfl Try.call12 rfl (Wd.u rfl) rfl rfl (within_ct _ _ w0 _ (by omega) (tdb _ 2 (by omega) (hal _ (List.getElem_mem _)))) (fun v59 H59 r59 => ?_)
                obtain ⟨at_, rfl, hat, hs59⟩ := r59
                replace hb := hb.nw hs59
                replace ha := ha.nw hs59
                replace hd := hd.nw hs59
                replace ow7 := ow7.nw hs59
                replace ow8 := ow8.nw hs59
                replace hm0 := hm0.tr hs59
                replace hlm1 := hlm1.tr hs59
                have hz5 := hs59.size
                refine LR.v (Y.assign rfl rfl) (Wd.u rfl) rfl rfl ?_
                refine LR.nil ?_
                refine hK20 _ _ ?_
                refine CW.seq (fun K21 hK21 hE21 => ?_)
                refine CW.region ?_
                refine LR.v (Y.move rfl rfl) (Wd.u rfl) rfl rfl ?_
                refine LR.v (Y.move rfl rfl) (Wd.u rfl) rfl rfl ?_
                refine LR.e (g := fun ad => .pointer (some ad)) (Y.indexAddr ha (i) rfl Try.runUnderlying31 Try.sizeOf3 rfl rfl (by first | rfl | omega) (by first | omega | (simp; omega) | (simp; done))) (Wd.u rfl) rfl rfl (fun ad62 pt62 => ?_)
                refine LR.v (Y.load1 pt62 rfl Try.isAgg3 rfl) (Wd.u rfl) rfl rfl ?_
                refine LR.v (Y.cast (v2 := .int .i64 (al[i].tdiv 7)) (Y.quo rfl rfl rfl (by omega)) (ivv (IntWalk.i64_in _ (tdb _ 7 (by omega) (hal _ (List.getElem_mem _)))))) (Wd.u rfl) rfl rfl ?_
                refine LR.v (Y.move rfl rfl) (Wd.u rfl) rfl rfl ?_
                refine LR.v (Y.len hb rfl Try.runUnderlying22 rfl) (Wd.u rfl) rfl rfl ?_
                refine LR.v (Y.move rfl rfl) (Wd.u rfl) rfl rfl ?_
                refine LR.v (Y.subi rfl rfl rfl (by omega)) (Wd.u rfl) rfl rfl ?_
                -- call selvage/selvagelaw6.within
                refine LR.call rfl Try.call12 rfl (Wd.u rfl) rfl rfl (within_ct _ _ w0 _ (by omega) (tdb _ 7 (by omega) (hal _ (List.getElem_mem _)))) (fun v69 H69 r69 => ?_)
                obtain ⟨n_, rfl, hn_, hs69⟩ := r69
                replace hb := hb.nw hs69
                replace ha := ha.nw hs69
                replace hd := hd.nw hs69
                replace ow7 := ow7.nw hs69
                replace ow8 := ow8.nw hs69
                replace hm0 := hm0.tr hs69
                replace hlm1 := hlm1.tr hs69
                have hz6 := hs69.size
                refine LR.v (Y.cast (v2 := .int .i64 ((1 + n_ : Nat) : Int)) (Y.addi rfl rfl rfl (by omega)) (ivv (by omega))) (Wd.u rfl) rfl rfl ?_
                refine LR.v (Y.assign rfl rfl) (Wd.u rfl) rfl rfl ?_
                refine LR.nil ?_
                refine hK21 _ _ ?_
                refine CW.seq (fun K22 hK22 hE22 => ?_)
                refine CW.region ?_
                refine LR.v (Y.move rfl rfl) (Wd.u rfl) rfl rfl ?_
                refine LR.v (Y.move rfl rfl) (Wd.u rfl) rfl rfl ?_
                refine LR.v (Y.shrn (8) rfl rfl rfl (by first | rfl | omega) (by omega)) (Wd.u rfl) rfl rfl ?_
                refine LR.v (Y.conv_u8 rfl Try.runUnderlying3 Try.runUnderlying5 rfl) (Wd.u rfl) rfl rfl ?_
                refine LR.v (Y.move rfl rfl) (Wd.u rfl) rfl rfl ?_
                refine LR.v (Y.conv_u8 rfl Try.runUnderlying3 Try.runUnderlying5 rfl) (Wd.u rfl) rfl rfl ?_
                refine LR.v (Y.move rfl rfl) (Wd.u rfl) rfl rfl ?_
                refine LR.v (Y.shrn (8) rfl rfl rfl (by first | rfl | omega) (by omega)) (Wd.u rfl) rfl rfl ?_
                refine LR.v (Y.conv_u8 rfl Try.runUnderlying3 Try.runUnderlying5 rfl) (Wd.u rfl) rfl rfl ?_
                refine LR.v (Y.move rfl rfl) (Wd.u rfl) rfl rfl ?_
                refine LR.v (Y.conv_u8 rfl Try.runUnderlying3 Try.runUnderlying5 rfl) (Wd.u rfl) rfl rfl ?_
                refine LR.z (Z.litw _ ([(1 : UInt8), 0, 0, UInt8.ofNat (at_ / 2 ^ 8), UInt8.ofNat at_, 0, 0, UInt8.ofNat ((1 + n_) / 2 ^ 8), UInt8.ofNat (1 + n_)]) rfl inf22 rfl rfl rfl (by decide) (by decide) fB_len fB_one (rfl)) (Wd.u rfl) rfl rfl (fun v82 H82 r82 => ?_)
                obtain ⟨ow82, hs82, ob82, hH82⟩ := r82
                have hzs82 : H82.size = H69.size + 1 := by rw [hH82]; simp
                have df12 := (DF.new (bf_hb.mono hm0.size) : DF _ (H69.size + 1))
                have df13 := (DF.new (bf_ha.mono hm0.size) : DF _ (H69.size + 1))
                have df14 := (DF.new (bf_hd.mono hm0.size) : DF _ (H69.size + 1))
                have dj15 : Dj kw (H69.size + 1) := Dj.new ow7.le
                have dj16 : Dj kb (H69.size + 1) := Dj.new ow8.le
                have nx17 : Nx 0 H0.size (H69.size + 1) := Nx.new hm0.size
                have nx18 : Nx 0 H16.size (H69.size + 1) := Nx.new hlm1.size
                replace hb := hb.nw hs82
                replace ha := ha.nw hs82
                replace hd := hd.nw hs82
                replace ow7 := ow7.nw hs82
                replace ow8 := ow8.nw hs82
                replace hm0 := hm0.tr hs82
                replace hlm1 := hlm1.tr hs82
                have hz7 := hs82.size
                refine LR.z (Z.apnd ow8 ow82.rd rfl inf22 rfl rfl (by simp only [List.length_append, List.length_drop, List.length_take, List.length_nil, List.length_cons]; omega) (by simp only [List.length_append, List.length_drop, List.length_take, List.length_nil, List.length_cons]; omega)) (Wd.u rfl) rfl rfl (fun v83 H83 r83 => ?_)
                obtain ⟨k83, ow83, hk83, hs83⟩ := r83
                replace hk83 : Nx kb H82.size k83 := hk83
                replace hs83 := hs83.md
                have df19 := DF.app (df5) (bf_hb.mono hm0.size) hk83
                have df20 := DF.app (df6) (bf_ha.mono hm0.size) hk83
                have df21 := DF.app (df7) (bf_hd.mono hm0.size) hk83
                have dj22 : Dj kw k83 := Dj.app (dj9) ow7.le hk83
                have dj23 : Dj (H69.size + 1) k83 := Dj.app (dj16.symm) ow82.le hk83
                have nx24 : Nx 0 H0.size k83 := Nx.tr (nx8) hk83 hm0.size
                have nx25 : Nx 0 H16.size k83 := Nx.tr (nx11) hk83 hlm1.size
                replace hb := hb.upL hs83 (DFL.cons df5 DFL.nil)
                replace ha := ha.upL hs83 (DFL.cons df6 DFL.nil)
                replace hd := hd.upL hs83 (DFL.cons df7 DFL.nil)
                replace ow7 := ow7.upL hs83 (DL.cons dj9 DL.nil)
                replace ow82 := ow82.upL hs83 (DL.cons dj16.symm DL.nil)
                replace hm0 := (Mo.trL (ks := []) (hm0.mdn []) hs83 (MIL.cons (MI.app MI.z (nx8) (Nat.le_refl _)) MIL.nil)).nil
                replace hlm1 := (Mo.trL (ks := []) (hlm1.mdn []) hs83 (MIL.cons (MI.app MI.z (nx11) (Nat.le_refl _)) MIL.nil)).nil
                have hz8 := hs83.size
                have hle_ow83 := ow83.le
                refine LR.v (Y.assign rfl rfl) (Wd.u rfl) rfl rfl ?_
                refine LR.nil ?_
                refine hK22 _ _ ?_
                refine CW.seq (fun K23 hK23 hE23 => ?_)
                refine CW.region ?_
                refine LR.v (Y.move rfl rfl) (Wd.u rfl) rfl rfl ?_
                refine LR.v (Y.move rfl rfl) (Wd.u rfl) rfl rfl ?_
                refine LR.v (Y.move rfl rfl) (Wd.u rfl) rfl rfl ?_
                refine LR.v (Y.move rfl rfl) (Wd.u rfl) rfl rfl ?_
                refine LR.v (Y.move rfl rfl) (Wd.u rfl) rfl rfl ?_
                refine LR.v (Y.addi rfl rfl rfl (by omega)) (Wd.u rfl) rfl rfl ?_
                refine LR.e (g := fun v => v) (Y.slice hb (at_) (at_ + (1 + n_)) rfl Try.runUnderlying22 Try.sizeOf5 rfl (.inr ⟨_, _, _, rfl, rfl, by first | rfl | omega⟩) (.inr ⟨_, _, _, rfl, rfl, by first | rfl | omega⟩) (by omega) (by omega)) (Wd.u rfl) rfl rfl (fun v90 rd90 => ?_)
                have bf_rd90 := bf_hb
                refine LR.z (Z.apnd ow7 rd90 rfl inf22 rfl rfl (by simp only [List.length_append, List.length_drop, List.length_take, List.length_nil, List.length_cons]; omega) (by simp only [List.length_append, List.length_drop, List.length_take, List.length_nil, List.length_cons]; omega)) (Wd.u rfl) rfl rfl (fun v91 H91 r91 => ?_)
                obtain ⟨k91, ow91, hk91, hs91⟩ := r91
                replace hk91 : Nx kw H83.size k91 := hk91
                replace hs91 := hs91.md
                have df26 := DF.app (df1) (bf_hb.mono hm0.size) hk91
                have df27 := DF.app (df2) (bf_ha.mono hm0.size) hk91
                have df28 := DF.app (df3) (bf_hd.mono hm0.size) hk91
                have dj29 : Dj k83 k91 := Dj.app (dj22.symm) ow83.le hk91
                have df30 := DF.app (df1) (bf_rd90.mono hm0.size) hk91
                have nx31 : Nx 0 H0.size k91 := Nx.tr (nx4) hk91 hm0.size
                have nx32 : Nx 0 H16.size k91 := Nx.tr (nx10) hk91 hlm1.size
                replace hb := hb.upL hs91 (DFL.cons df1 DFL.nil)
                replace ha := ha.upL hs91 (DFL.cons df2 DFL.nil)
                replace hd := hd.upL hs91 (DFL.cons df3 DFL.nil)
                replace ow83 := ow83.upL hs91 (DL.cons dj22.symm DL.nil)
                replace rd90 := rd90.upL hs91 (DFL.cons df1 DFL.nil)
                replace hm0 := (Mo.trL (ks := []) (hm0.mdn []) hs91 (MIL.cons (MI.app MI.z (nx4) (Nat.le_refl _)) MIL.nil)).nil
                replace hlm1 := (Mo.trL (ks := []) (hlm1.mdn []) hs91 (MIL.cons (MI.app MI.z (nx10) (Nat.le_refl _)) MIL.nil)).nil
                have hz9 := hs91.size
                have hle_ow91 := ow91.le
                refine LR.v (Y.assign rfl rfl) (Wd.u rfl) rfl rfl ?_
                refine LR.nil ?_
                refine hK23 _ _ ?_
                refine CW.exit (hE18 (.exit 1) nofun _ _ (hX17 _ _ ?_))
                refine hK16 _ _ ?_
                refine CW.region ?_
                refine LR.v (Y.move rfl rfl) (Wd.u rfl) rfl rfl ?_
                refine LR.v (Y.addi rfl rfl rfl (by omega)) (Wd.u rfl) rfl rfl ?_
                refine LR.v (Y.assign rfl rfl) (Wd.u rfl) rfl rfl ?_
                refine LR.nil ?_
                have hsl : (bs.take (at_ + (1 + n_))).drop at_ = slc bs at_ (1 + n_) := by rw [slc, List.take_drop]
                rw [hsl] at ow91
                have hs2 := slc_len bs at_ (1 + n_) (by omega)
                rw [← cp_lit at_ (1 + n_) (by omega) (by omega)] at ow83
                have hcl : (cp at_ (1 + n_)).length = 9 := by simp [cp, be32_len]
                refine QN.sub (hN13 (i + 1, v91, k91, want ++ slc bs at_ (1 + n_), v83, k83, body ++ cp at_ (1 + n_)) _ ?_ ?_) ⟨rfl, rfl, rfl, rfl, rfl, (iv (by omega)), trivial⟩
                · exact ⟨(by omega), ow91, ow83, (by rw [List.length_append]; omega), (by rw [List.length_append]; omega), hdn.cp (by omega) (by omega) (by omega), nx32, nx25, dj29.symm, hlm1⟩
                · simp only; omega
              ·
                refine CW.skip ?_
                refine hK18 _ _ ?_
                refine CW.seq (fun K24 hK24 hE24 => ?_)
                refine CW.region ?_
                refine LR.v (Y.move rfl rfl) (Wd.u rfl) rfl rfl ?_
                refine LR.v (Y.move rfl rfl) (Wd.u rfl) rfl rfl ?_
                refine LR.e (g := fun ad => .pointer (some ad)) (Y.indexAddr ha (i) rfl Try.runUnderlying31 Try.sizeOf3 rfl rfl (by first | rfl | omega) (by first | omega | (simp; omega) | (simp; done))) (Wd.u rfl) rfl rfl (fun ad94 pt94 => ?_)
                refine LR.v (Y.load1 pt94 rfl Try.isAgg3 rfl) (Wd.u rfl) rfl rfl ?_
                refine LR.v (Y.cast (v2 := .int .i64 (al[i].tdiv 2)) (Y.quo rfl rfl rfl (by omega)) (ivv (IntWalk.i64_in _ (tdb _ 2 (by omega) (hal _ (List.getElem_mem _)))))) (Wd.u rfl) rfl rfl ?_
                refine LR.v (Y.move rfl rfl) (Wd.u rfl) rfl rfl ?_
                refine LR.v (Y.len hd rfl Try.runUnderlying22 rfl) (Wd.u rfl) rfl rfl ?_
                have hdz := hb2 c51
                -- call selvage/selvagelaw6.within
                refine LR.call rfl Try.call12 rfl (Wd.u rfl) rfl rfl (within_ct _ _ w0 _ (by omega) (tdb _ 2 (by omega) (hal _ (List.getElem_mem _)))) (fun v99 H99 r99 => ?_)
                obtain ⟨n_, rfl, hn_, hs99⟩ := r99
                replace hb := hb.nw hs99
                replace ha := ha.nw hs99
                replace hd := hd.nw hs99
                replace ow7 := ow7.nw hs99
                replace ow8 := ow8.nw hs99
                replace hm0 := hm0.tr hs99
                replace hlm1 := hlm1.tr hs99
                have hz10 := hs99.size
                refine LR.v (Y.cast (v2 := .int .i64 ((1 + n_ : Nat) : Int)) (Y.addi rfl rfl rfl (by omega)) (ivv (by omega))) (Wd.u rfl) rfl rfl ?_
                refine LR.v (Y.assign rfl rfl) (Wd.u rfl) rfl rfl ?_
                refine LR.nil ?_
                refine hK24 _ _ ?_
                refine CW.seq (fun K25 hK25 hE25 => ?_)
                refine CW.region_any (fun Hq => Mo (Ms [kb]) H99 Hq) [] rfl ?_
                have hq15 : Mo (Ms [kb]) H99 H99 := Mo.refl _ _
                have nx33 := Nx.refl kb H99.size
                refine LH.take 0 (by kernel_rfl) rfl (by kernel_rfl) (by kernel_rfl) (by kernel_rfl) (fun Hq hq => Y.move rfl rfl) (Wd.u rfl) rfl rfl hq15 ?_
                refine LH.take 1 (by kernel_rfl) rfl (by kernel_rfl) (by kernel_rfl) (by kernel_rfl) (fun Hq hq => Y.move rfl rfl) (Wd.u rfl) rfl rfl hq15 ?_
                refine LH.take 2 (by kernel_rfl) rfl (by kernel_rfl) (by kernel_rfl) (by kernel_rfl) (fun Hq hq => Y.shrn (8) rfl rfl rfl (by first | rfl | omega) (by omega)) (Wd.u rfl) rfl rfl hq15 ?_
                refine LH.take 3 (by kernel_rfl) rfl (by kernel_rfl) (by kernel_rfl) (by kernel_rfl) (fun Hq hq => Y.conv_u8 rfl Try.runUnderlying3 Try.runUnderlying5 rfl) (Wd.u rfl) rfl rfl hq15 ?_
                refine LH.take 4 (by kernel_rfl) rfl (by kernel_rfl) (by kernel_rfl) (by kernel_rfl) (fun Hq hq => Y.move rfl rfl) (Wd.u rfl) rfl rfl hq15 ?_
                refine LH.take 5 (by kernel_rfl) rfl (by kernel_rfl) (by kernel_rfl) (by kernel_rfl) (fun Hq hq => Y.conv_u8 rfl Try.runUnderlying3 Try.runUnderlying5 rfl) (Wd.u rfl) rfl rfl hq15 ?_
                refine LH.take 8 (by kernel_rfl) rfl (by kernel_rfl) (by kernel_rfl) (by kernel_rfl) (fun Hq hq => Y.move rfl rfl) (Wd.u rfl) rfl rfl hq15 ?_
                refine LH.take 9 (by kernel_rfl) rfl (by kernel_rfl) (by kernel_rfl) (by kernel_rfl) (fun Hq hq => Y.move rfl rfl) (Wd.u rfl) rfl rfl hq15 ?_
                refine LH.e (g := fun v => v) 10 (by kernel_rfl) rfl (by kernel_rfl) (by kernel_rfl) (by kernel_rfl) (Y.slice hd (0) (1 + n_) rfl Try.runUnderlying22 Try.sizeOf5 rfl (.inl ⟨rfl, rfl⟩) (.inr ⟨_, _, _, rfl, rfl, by first | rfl | omega⟩) (by omega) (by omega)) (Wd.u rfl) rfl rfl hq15 (fun v111 rd111 => ?_)
                have bf_rd111 := bf_hd
                refine LH.one (i := 6) (by kernel_rfl) ?_
                refine LO.z rfl (Z.litw _ ([(2 : UInt8), 0, 0, UInt8.ofNat ((1 + n_) / 2 ^ 8), UInt8.ofNat (1 + n_)]) rfl inf22 rfl rfl rfl (by decide) (by decide) fB_len fB_one (rfl)) (Wd.u rfl) rfl rfl (fun v107 H107 r107 => ?_)
                obtain ⟨ow107, hs107, ob107, hH107⟩ := r107
                have hzs107 : H107.size = H99.size + 1 := by rw [hH107]; simp
                have df34 := (DF.new (bf_hb.mono hm0.size) : DF _ (H99.size + 1))
                have df35 := (DF.new (bf_ha.mono hm0.size) : DF _ (H99.size + 1))
                have df36 := (DF.new (bf_hd.mono hm0.size) : DF _ (H99.size + 1))
                have dj37 : Dj kw (H99.size + 1) := Dj.new ow7.le
                have dj38 : Dj kb (H99.size + 1) := Dj.new ow8.le
                have df39 := (DF.new (bf_rd111.mono hm0.size) : DF _ (H99.size + 1))
                have nx40 : Nx 0 H0.size (H99.size + 1) := Nx.new hm0.size
                have nx41 : Nx 0 H16.size (H99.size + 1) := Nx.new hlm1.size
                have nx42 : Nx 0 H99.size (H99.size + 1) := Nx.new hq15.size
                replace hb := hb.nw hs107
                replace ha := ha.nw hs107
                replace hd := hd.nw hs107
                replace ow7 := ow7.nw hs107
                replace ow8 := ow8.nw hs107
                replace rd111 := rd111.nw hs107
                replace hm0 := hm0.tr hs107
                replace hlm1 := hlm1.tr hs107
                replace hq15 := hq15.trN hs107
                have hz11 := hs107.size
                refine ⟨.inr hq15, LH.narrow (SH2 := fun Hq => Mo (Ms [kb, (H99.size + 1)]) H107 Hq) (fun Hq hq => hq15.trL hq (MIL.cons (MI.app (MI.root (by simp)) (nx33) (Nat.le_refl _)) (MIL.cons (MI.app MI.z (nx42) (Nat.le_refl _)) MIL.nil))) ?_⟩
                have hq15 : Mo (Ms [kb, (H99.size + 1)]) H107 H107 := Mo.refl _ _
                have nx43 := Nx.refl kb H107.size
                have nx44 := Nx.refl (H99.size + 1) H107.size
                refine LH.one (i := 7) (by kernel_rfl) ?_
                refine LO.z rfl (Z.apnd ow8 ow107.rd rfl inf22 rfl rfl (by simp only [List.length_append, List.length_drop, List.length_take, List.length_nil, List.length_cons]; omega) (by simp only [List.length_append, List.length_drop, List.length_take, List.length_nil, List.length_cons]; omega)) (Wd.u rfl) rfl rfl (fun v108 H108 r108 => ?_)
                obtain ⟨k108, ow108, hk108, hs108⟩ := r108
                replace hk108 : Nx kb H107.size k108 := hk108
                replace hs108 := hs108.md
                have df45 := DF.app (df5) (bf_hb.mono hm0.size) hk108
                have df46 := DF.app (df6) (bf_ha.mono hm0.size) hk108
                have df47 := DF.app (df7) (bf_hd.mono hm0.size) hk108
                have dj48 : Dj kw k108 := Dj.app (dj9) ow7.le hk108
                have df49 := DF.app (df7) (bf_rd111.mono hm0.size) hk108
                have dj50 : Dj (H99.size + 1) k108 := Dj.app (dj38.symm) ow107.le hk108
                have nx51 : Nx 0 H0.size k108 := Nx.tr (nx8) hk108 hm0.size
                have nx52 : Nx 0 H16.size k108 := Nx.tr (nx11) hk108 hlm1.size
                have nx53 : Nx kb H107.size k108 := Nx.tr (nx43) hk108 hq15.size
                replace hb := hb.upL hs108 (DFL.cons df5 DFL.nil)
                replace ha := ha.upL hs108 (DFL.cons df6 DFL.nil)
                replace hd := hd.upL hs108 (DFL.cons df7 DFL.nil)
                replace ow7 := ow7.upL hs108 (DL.cons dj9 DL.nil)
                replace rd111 := rd111.upL hs108 (DFL.cons df7 DFL.nil)
                replace ow107 := ow107.upL hs108 (DL.cons dj38.symm DL.nil)
                replace hm0 := (Mo.trL (ks := []) (hm0.mdn []) hs108 (MIL.cons (MI.app MI.z (nx8) (Nat.le_refl _)) MIL.nil)).nil
                replace hlm1 := (Mo.trL (ks := []) (hlm1.mdn []) hs108 (MIL.cons (MI.app MI.z (nx11) (Nat.le_refl _)) MIL.nil)).nil
                replace hq15 := hq15.trL hs108 (MIL.cons (MI.app (MI.root (by simp)) (nx43) (Nat.le_refl _)) MIL.nil)
                have hz12 := hs108.size
                have hle_ow108 := ow108.le
                refine ⟨.inr hq15, LH.narrow (SH2 := fun Hq => Mo (Ms [k108, (H99.size + 1)]) H108 Hq) (fun Hq hq => hq15.trL hq (MIL.cons (MI.app (MI.root (by simp)) (nx53) (Nat.le_refl _)) (MIL.cons (MI.app (MI.root (by simp)) (nx44) (Nat.le_refl _)) MIL.nil))) ?_⟩
                have hq15 : Mo (Ms [k108, (H99.size + 1)]) H108 H108 := Mo.refl _ _
                have nx54 := Nx.refl k108 H108.size
                have nx55 := Nx.refl (H99.size + 1) H108.size
                refine LH.one (i := 11) (by kernel_rfl) ?_
                refine LO.z rfl (Z.apnd ow108 rd111 rfl inf22 rfl rfl (by simp only [List.length_append, List.length_drop, List.length_take, List.length_nil, List.length_cons]; omega) (by simp only [List.length_append, List.length_drop, List.length_take, List.length_nil, List.length_cons]; omega)) (Wd.u rfl) rfl rfl (fun v112 H112 r112 => ?_)
                obtain ⟨k112, ow112, hk112, hs112⟩ := r112
                replace hk112 : Nx k108 H108.size k112 := hk112
                replace hs112 := hs112.md
                have df56 := DF.app (df45) (bf_hb.mono hm0.size) hk112
                have df57 := DF.app (df46) (bf_ha.mono hm0.size) hk112
                have df58 := DF.app (df47) (bf_hd.mono hm0.size) hk112
                have dj59 : Dj kw k112 := Dj.app (dj48) ow7.le hk112
                have df60 := DF.app (df49) (bf_rd111.mono hm0.size) hk112
                have dj61 : Dj (H99.size + 1) k112 := Dj.app (dj50) ow107.le hk112
                have nx62 : Nx 0 H0.size k112 := Nx.tr (nx51) hk112 hm0.size
                have nx63 : Nx 0 H16.size k112 := Nx.tr (nx52) hk112 hlm1.size
                have nx64 : Nx k108 H108.size k112 := Nx.tr (nx54) hk112 hq15.size
                replace hb := hb.upL hs112 (DFL.cons df45 DFL.nil)
                replace ha := ha.upL hs112 (DFL.cons df46 DFL.nil)
                replace hd := hd.upL hs112 (DFL.cons df47 DFL.nil)
                replace ow7 := ow7.upL hs112 (DL.cons dj48 DL.nil)
                replace rd111 := rd111.upL hs112 (DFL.cons df49 DFL.nil)
                replace ow107 := ow107.upL hs112 (DL.cons dj50 DL.nil)
                replace hm0 := (Mo.trL (ks := []) (hm0.mdn []) hs112 (MIL.cons (MI.app MI.z (nx51) (Nat.le_refl _)) MIL.nil)).nil
                replace hlm1 := (Mo.trL (ks := []) (hlm1.mdn []) hs112 (MIL.cons (MI.app MI.z (nx52) (Nat.le_refl _)) MIL.nil)).nil
                replace hq15 := hq15.trL hs112 (MIL.cons (MI.app (MI.root (by simp)) (nx54) (Nat.le_refl _)) MIL.nil)
                have hz13 := hs112.size
                have hle_ow112 := ow112.le
                refine ⟨.inr hq15, LH.narrow (SH2 := fun Hq => Mo (Ms [k112, (H99.size + 1)]) H112 Hq) (fun Hq hq => hq15.trL hq (MIL.cons (MI.app (MI.root (by simp)) (nx64) (Nat.le_refl _)) (MIL.cons (MI.app (MI.root (by simp)) (nx55) (Nat.le_refl _)) MIL.nil))) ?_⟩
                have hq15 : Mo (Ms [k112, (H99.size + 1)]) H112 H112 := Mo.refl _ _
                have nx65 := Nx.refl k112 H112.size
                have nx66 := Nx.refl (H99.size + 1) H112.size
                refine LH.take 12 (by kernel_rfl) rfl (by kernel_rfl) (by kernel_rfl) (by kernel_rfl) (fun Hq hq => Y.assign rfl rfl) (Wd.u rfl) rfl rfl hq15 ?_
                refine LH.done (by kernel_rfl) ?_
                refine hK25 _ _ ?_
                refine CW.region ?_
                refine LR.v (Y.move rfl rfl) (Wd.u rfl) rfl rfl ?_
                refine LR.v (Y.move rfl rfl) (Wd.u rfl) rfl rfl ?_
                refine LR.v (Y.move rfl rfl) (Wd.u rfl) rfl rfl ?_
                refine LR.e (g := fun v => v) (Y.slice hd (0) (1 + n_) rfl Try.runUnderlying22 Try.sizeOf5 rfl (.inl ⟨rfl, rfl⟩) (.inr ⟨_, _, _, rfl, rfl, by first | rfl | omega⟩) (by omega) (by omega)) (Wd.u rfl) rfl rfl (fun v116 rd116 => ?_)
                have bf_rd116 := bf_hd
                refine LR.z (Z.apnd ow7 rd116 rfl inf22 rfl rfl (by simp only [List.length_append, List.length_drop, List.length_take, List.length_nil, List.length_cons]; omega) (by simp only [List.length_append, List.length_drop, List.length_take, List.length_nil, List.length_cons]; omega)) (Wd.u rfl) rfl rfl (fun v117 H117 r117 => ?_)
                obtain ⟨k117, ow117, hk117, hs117⟩ := r117
                replace hk117 : Nx kw H112.size k117 := hk117
                replace hs117 := hs117.md
                have df67 := DF.app (df1) (bf_hb.mono hm0.size) hk117
                have df68 := DF.app (df2) (bf_ha.mono hm0.size) hk117
                have df69 := DF.app (df3) (bf_hd.mono hm0.size) hk117
                have dj70 : Dj k112 k117 := Dj.app (dj59.symm) ow112.le hk117
                have df71 := DF.app (df3) (bf_rd116.mono hm0.size) hk117
                have nx72 : Nx 0 H0.size k117 := Nx.tr (nx4) hk117 hm0.size
                have nx73 : Nx 0 H16.size k117 := Nx.tr (nx10) hk117 hlm1.size
                replace hb := hb.upL hs117 (DFL.cons df1 DFL.nil)
                replace ha := ha.upL hs117 (DFL.cons df2 DFL.nil)
                replace hd := hd.upL hs117 (DFL.cons df3 DFL.nil)
                replace ow112 := ow112.upL hs117 (DL.cons dj59.symm DL.nil)
                replace rd116 := rd116.upL hs117 (DFL.cons df3 DFL.nil)
                replace hm0 := (Mo.trL (ks := []) (hm0.mdn []) hs117 (MIL.cons (MI.app MI.z (nx4) (Nat.le_refl _)) MIL.nil)).nil
                replace hlm1 := (Mo.trL (ks := []) (hlm1.mdn []) hs117 (MIL.cons (MI.app MI.z (nx10) (Nat.le_refl _)) MIL.nil)).nil
                have hz14 := hs117.size
                have hle_ow117 := ow117.le
                refine LR.v (Y.assign rfl rfl) (Wd.u rfl) rfl rfl ?_
                refine LR.nil ?_
                refine hK17 _ _ ?_
                refine hK16 _ _ ?_
                refine CW.region ?_
                refine LR.v (Y.move rfl rfl) (Wd.u rfl) rfl rfl ?_
                refine LR.v (Y.addi rfl rfl rfl (by omega)) (Wd.u rfl) rfl rfl ?_
                refine LR.v (Y.assign rfl rfl) (Wd.u rfl) rfl rfl ?_
                refine LR.nil ?_
                have hml : (dl.take (1 + n_)).length = 1 + n_ := by rw [List.length_take]; omega
                have hbe : 2 :: be32 (dl.take (1 + n_)).length ++ dl.take (1 + n_) = [2, 0, 0, UInt8.ofNat ((1 + n_) / 2 ^ 8), UInt8.ofNat (1 + n_)] ++ dl.take (1 + n_) := by rw [hml, be32_1 _ (by omega)]
                rw [List.drop_zero] at ow117
                rw [List.drop_zero, List.append_assoc, ← hbe] at ow112
                refine QN.sub (hN13 (i + 1, v117, k117, want ++ dl.take (1 + n_), v112, k112, body ++ (2 :: be32 (dl.take (1 + n_)).length ++ dl.take (1 + n_))) _ ?_ ?_) ⟨rfl, rfl, rfl, rfl, rfl, (iv (by omega)), trivial⟩
                · exact ⟨(by omega), ow117, ow112, (by rw [List.length_append]; omega), (by simp only [List.length_append, List.length_cons, be32_len]; omega), hdn.ins (by omega) (by omega), nx73, nx63, dj70.symm, hlm1⟩
                · simp only; omega
          ·
            refine CW.exit (hE14 (.exit 0) nofun _ _ (hE13 (.exit 0) nofun _ _ (hX12 _ _ ?_)))
            refine hK10 _ _ ?_
            refine CW.seq (fun K26 hK26 hE26 => ?_)
            refine CW.region ?_
            refine LR.v (Y.move rfl rfl) (Wd.u rfl) rfl rfl ?_
            refine LR.v (Y.len hb rfl Try.runUnderlying22 rfl) (Wd.u rfl) rfl rfl ?_
            refine LR.v (Y.shrn (8) rfl rfl rfl (by first | rfl | omega) (by omega)) (Wd.u rfl) rfl rfl ?_
            refine LR.v (Y.conv_u8 rfl Try.runUnderlying3 Try.runUnderlying5 rfl) (Wd.u rfl) rfl rfl ?_
            refine LR.v (Y.move rfl rfl) (Wd.u rfl) rfl rfl ?_
            refine LR.v (Y.len hb rfl Try.runUnderlying22 rfl) (Wd.u rfl) rfl rfl ?_
            refine LR.v (Y.conv_u8 rfl Try.runUnderlying3 Try.runUnderlying5 rfl) (Wd.u rfl) rfl rfl ?_
            refine LR.v (Y.move rfl rfl) (Wd.u rfl) rfl rfl ?_
            refine LR.v (Y.len ow7.rd rfl Try.runUnderlying22 rfl) (Wd.u rfl) rfl rfl ?_
            refine LR.v (Y.shrn (16) rfl rfl rfl (by first | rfl | omega) (by omega)) (Wd.u rfl) rfl rfl ?_
            refine LR.v (Y.conv_u8 rfl Try.runUnderlying3 Try.runUnderlying5 rfl) (Wd.u rfl) rfl rfl ?_
            refine LR.v (Y.move rfl rfl) (Wd.u rfl) rfl rfl ?_
            refine LR.v (Y.len ow7.rd rfl Try.runUnderlying22 rfl) (Wd.u rfl) rfl rfl ?_
            refine LR.v (Y.shrn (8) rfl rfl rfl (by first | rfl | omega) (by omega)) (Wd.u rfl) rfl rfl ?_
            refine LR.v (Y.conv_u8 rfl Try.runUnderlying3 Try.runUnderlying5 rfl) (Wd.u rfl) rfl rfl ?_
            refine LR.v (Y.move rfl rfl) (Wd.u rfl) rfl rfl ?_
            refine LR.v (Y.len ow7.rd rfl Try.runUnderlying22 rfl) (Wd.u rfl) rfl rfl ?_
            refine LR.v (Y.conv_u8 rfl Try.runUnderlying3 Try.runUnderlying5 rfl) (Wd.u rfl) rfl rfl ?_
            refine LR.z (Z.litw _ ([(0 : UInt8), 0, UInt8.ofNat (bs.length / 2 ^ 8), UInt8.ofNat bs.length, 0, UInt8.ofNat (want.length / 2 ^ 16), UInt8.ofNat (want.length / 2 ^ 8), UInt8.ofNat want.length]) rfl inf22 rfl rfl rfl (by decide) (by decide) fB_len fB_one (rfl)) (Wd.u rfl) rfl rfl (fun v136 H136 r136 => ?_)
            obtain ⟨ow136, hs136, ob136, hH136⟩ := r136
            have hzs136 : H136.size = Hcutr7.size + 1 := by rw [hH136]; simp
            have df74 := (DF.new (bf_hb.mono hm0.size) : DF _ (Hcutr7.size + 1))
            have df75 := (DF.new (bf_ha.mono hm0.size) : DF _ (Hcutr7.size + 1))
            have df76 := (DF.new (bf_hd.mono hm0.size) : DF _ (Hcutr7.size + 1))
            have dj77 : Dj kw (Hcutr7.size + 1) := Dj.new ow7.le
            have dj78 : Dj kb (Hcutr7.size + 1) := Dj.new ow8.le
            have nx79 : Nx 0 H0.size (Hcutr7.size + 1) := Nx.new hm0.size
            replace hb := hb.nw hs136
            replace ha := ha.nw hs136
            replace hd := hd.nw hs136
            replace ow7 := ow7.nw hs136
            replace ow8 := ow8.nw hs136
            replace hm0 := hm0.tr hs136
            have hz15 := hs136.size
            refine LR.v (Y.assign rfl rfl) (Wd.u rfl) rfl rfl ?_
            refine LR.nil ?_
            refine hK26 _ _ ?_
            refine CW.seq (fun K27 hK27 hE27 => ?_)
            refine CW.region ?_
            refine LR.v (Y.move rfl rfl) (Wd.u rfl) rfl rfl ?_
            refine LR.v (Y.move rfl rfl) (Wd.u rfl) rfl rfl ?_
            refine LR.z (Z.apnd ow136 ow8.rd rfl inf22 rfl rfl (by simp only [List.length_append, List.length_drop, List.length_take, List.length_nil, List.length_cons]; omega) (by simp only [List.length_append, List.length_drop, List.length_take, List.length_nil, List.length_cons]; omega)) (Wd.u rfl) rfl rfl (fun v139 H139 r139 => ?_)
            obtain ⟨k139, owd, hk139, hs139⟩ := r139
            replace hk139 : Nx (Hcutr7.size + 1) H136.size k139 := hk139
            replace hs139 := hs139.md
            have df80 := DF.app (df74) (bf_hb.mono hm0.size) hk139
            have df81 := DF.app (df75) (bf_ha.mono hm0.size) hk139
            have df82 := DF.app (df76) (bf_hd.mono hm0.size) hk139
            have dj83 : Dj kw k139 := Dj.app (dj77) ow7.le hk139
            have dj84 : Dj kb k139 := Dj.app (dj78) ow8.le hk139
            have nx85 : Nx 0 H0.size k139 := Nx.tr (nx79) hk139 hm0.size
            replace hb := hb.upL hs139 (DFL.cons df74 DFL.nil)
            replace ha := ha.upL hs139 (DFL.cons df75 DFL.nil)
            replace hd := hd.upL hs139 (DFL.cons df76 DFL.nil)
            replace ow7 := ow7.upL hs139 (DL.cons dj77 DL.nil)
            replace ow8 := ow8.upL hs139 (DL.cons dj78 DL.nil)
            replace hm0 := (Mo.trL (ks := []) (hm0.mdn []) hs139 (MIL.cons (MI.app MI.z (nx79) (Nat.le_refl _)) MIL.nil)).nil
            have hz16 := hs139.size
            have hle_owd := owd.le
            have hbe : [(0 : UInt8), 0, UInt8.ofNat (bs.length / 2 ^ 8), UInt8.ofNat bs.length, 0, UInt8.ofNat (want.length / 2 ^ 16), UInt8.ofNat (want.length / 2 ^ 8), UInt8.ofNat want.length] ++ body = be32 bs.length ++ (be32 want.length ++ body) := by rw [be32_1 bs.length (by omega), be32_2 want.length (by omega)]; rfl
            rw [hbe] at owd
            refine LR.v (Y.assign rfl rfl) (Wd.u rfl) rfl rfl ?_
            refine LR.nil ?_
            refine hK27 _ _ ?_
            refine CW.seq (fun K28 hK28 hE28 => ?_)
            refine CW.region ?_
            refine LR.v (Y.move rfl rfl) (Wd.u rfl) rfl rfl ?_
            refine LR.v (Y.move rfl rfl) (Wd.u rfl) rfl rfl ?_
            -- call selvage/delta.Apply
            refine LR.call rfl Try.call8 rfl (Wd.u rfl) rfl rfl (apply_ct _ _ bs _ w0 _ hb.any owd.rd.any (by omega) (by simp only [List.length_append, be32_len]; omega)) (fun v143 H143 r143 => ?_)
            obtain ⟨v143, ka, xa, ea, rfl, hqa, hk143, hxa, hs143⟩ := r143
            have df86 := DF.app (DF.z) (bf_hb.mono hm0.size) hk143
            have df87 := DF.app (DF.z) (bf_ha.mono hm0.size) hk143
            have df88 := DF.app (DF.z) (bf_hd.mono hm0.size) hk143
            have dj89 : Dj kw ka := Dj.app (Dj.z) ow7.le hk143
            have dj90 : Dj kb ka := Dj.app (Dj.z) ow8.le hk143
            have dj91 : Dj k139 ka := Dj.app (Dj.z) owd.le hk143
            have nx92 : Nx 0 H0.size ka := Nx.tr (Nx.refl 0 _) hk143 hm0.size
            replace hb := hb.nw hs143
            replace ha := ha.nw hs143
            replace hd := hd.nw hs143
            replace ow7 := ow7.nw hs143
            replace ow8 := ow8.nw hs143
            replace owd := owd.nw hs143
            replace hm0 := hm0.tr hs143
            have hz17 := hs143.size
            have hle_hqa := hqa.le
            rw [hdn.all (by omega) (by omega)] at hxa
            obtain ⟨rfl, rfl⟩ := Prod.mk.inj hxa
            refine LR.v (Y.move rfl rfl) (Wd.u rfl) rfl rfl ?_
            refine LR.v (Y.extract rfl rfl rfl) (Wd.u rfl) rfl rfl ?_
            refine LR.v (Y.extract rfl rfl rfl) (Wd.u rfl) rfl rfl ?_
            refine LR.v (Y.assign rfl rfl) (Wd.u rfl) rfl rfl ?_
            refine LR.v (Y.assign rfl rfl) (Wd.u rfl) rfl rfl ?_
            refine LR.nil ?_
            refine hK28 _ _ ?_
            refine CW.seq (fun K29 hK29 hE29 => ?_)
            refine CW.region ?_
            refine LR.v (Y.move rfl rfl) (Wd.u rfl) rfl rfl ?_
            refine LR.v ((Y.eql rfl rfl rfl).isT (rfl)) (Wd.u rfl) rfl rfl ?_
            refine LR.v (Y.move rfl rfl) (Wd.u rfl) rfl rfl ?_
            refine LR.v (Y.move rfl rfl) (Wd.g rfl rfl rfl) rfl rfl ?_
            refine LR.v (Y.bstr hqa.rd rfl Try.underlying22 Try.underlying9 Try.underlying5 rfl) (Wd.g rfl rfl rfl) rfl rfl ?_
            refine LR.v (Y.move rfl rfl) (Wd.g rfl rfl rfl) rfl rfl ?_
            refine LR.v (Y.bstr ow7.rd rfl Try.underlying22 Try.underlying9 Try.underlying5 rfl) (Wd.g rfl rfl rfl) rfl rfl ?_
            refine LR.v ((Y.seql rfl rfl rfl).isT (rfl)) (Wd.g rfl rfl rfl) rfl rfl ?_
            refine LR.v (Y.pick_t rfl rfl rfl) (Wd.u rfl) rfl rfl ?_
            refine LR.v (Y.assign rfl rfl) (Wd.u rfl) rfl rfl ?_
            refine LR.nil ?_
            refine hK29 _ _ ?_
            refine CW.ret (hret .ret (.inr rfl) _ _ _ (res1 rfl rfl) ?_)
            exact ⟨rfl, hm0⟩

end Go.Proofs.Ytjkjdpainenofaa.DelK
