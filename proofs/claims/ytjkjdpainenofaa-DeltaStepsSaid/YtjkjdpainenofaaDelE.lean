/-
  A delta applied.
-/
import Derived.Test.YtjkjdpainenofaaDelD
namespace Go.Proofs.Ytjkjdpainenofaa.DelE
open Go.Proofs.Ytjkjdpainenofaa.E Go.RowKit Go.Proofs.Ytjkjdpainenofaa.Num Go.Proofs.Ytjkjdpainenofaa.DelA Go.Proofs.Ytjkjdpainenofaa.DelB Go.Proofs.Ytjkjdpainenofaa.DelC Go.Proofs.Ytjkjdpainenofaa.DelD
set_option linter.unusedVariables false
set_option linter.unusedSimpArgs false
set_option linter.unusedSectionVars false
theorem inf22 : Inf Try.prog 22 5 1 1 := ⟨Try.underlying22, _, _, rfl, rfl, rfl, rfl, rfl⟩

def slc (l : List UInt8) (a n : Nat) : List UInt8 := (l.drop a).take n
def bad1 (base : List UInt8) (size : Nat) (out : List UInt8) (a n : Nat) : Prop := n = 0 ∨ a > base.length ∨ n > base.length - a ∨ n > size - out.length
instance (base : List UInt8) (size : Nat) (out : List UInt8) (a n : Nat) : Decidable (bad1 base size out a n) := by unfold bad1; infer_instance
/-- the steps of a delta -/
def apf (base : List UInt8) (size : Nat) (out rr : List UInt8) : List UInt8 × Int :=
  match rr with
  | [] => if out.length = size then (out, 0) else ([], 16)
  | x :: t =>
    if x = 1 then
      if t.length < 8 then ([], 14)
      else if bad1 base size out (bev 0 (t.take 4)) (bev 0 (slc t 4 4)) then ([], 16)
      else apf base size (out ++ slc base (bev 0 (t.take 4)) (bev 0 (slc t 4 4))) (t.drop 8)
    else if x = 2 then
      if t.length < 4 then ([], 14)
      else if bev 0 (t.take 4) > t.length - 4 then ([], 14)
      else if bev 0 (t.take 4) = 0 ∨ bev 0 (t.take 4) > size - out.length then ([], 16)
      else apf base size (out ++ slc t 4 (bev 0 (t.take 4))) (t.drop (4 + bev 0 (t.take 4)))
    else ([], 16)
termination_by rr.length
decreasing_by all_goals simp <;> omega
def apt (base d : List UInt8) : List UInt8 × Int := if d.length < 8 then ([], 14) else if bev 0 (d.take 4) ≠ base.length then ([], 1) else apf base (bev 0 (slc d 4 4)) [] (d.drop 8)
section
variable {base out t : List UInt8} {size : Nat} {x : UInt8}
theorem apf_nil : apf base size out [] = if out.length = size then (out, 0) else ([], 16) := by rw [apf]
theorem apf_c1 (h : t.length < 8) : apf base size out (1 :: t) = ([], 14) := by rw [apf]; simp [h]
theorem apf_c2 (h : ¬ t.length < 8) (hb : bad1 base size out (bev 0 (t.take 4)) (bev 0 (slc t 4 4))) : apf base size out (1 :: t) = ([], 16) := by rw [apf]; simp [h, hb]
theorem apf_c3 (h : ¬ t.length < 8) (hb : ¬ bad1 base size out (bev 0 (t.take 4)) (bev 0 (slc t 4 4))) : apf base size out (1 :: t) = apf base size (out ++ slc base (bev 0 (t.take 4)) (bev 0 (slc t 4 4))) (t.drop 8) := by rw [apf]; simp [h, hb]
theorem apf_i1 (h : t.length < 4) : apf base size out (2 :: t) = ([], 14) := by rw [apf]; simp [h]
theorem apf_i2 (h : ¬ t.length < 4) (hb : bev 0 (t.take 4) > t.length - 4) : apf base size out (2 :: t) = ([], 14) := by rw [apf]; simp [h, hb]
theorem apf_i3 (h : ¬ t.length < 4) (hb : ¬ bev 0 (t.take 4) > t.length - 4) (hc : bev 0 (t.take 4) = 0 ∨ bev 0 (t.take 4) > size - out.length) : apf base size out (2 :: t) = ([], 16) := by rw [apf]; simp [h, hb, hc]
theorem apf_i4 (h : ¬ t.length < 4) (hb : ¬ bev 0 (t.take 4) > t.length - 4) (hc : ¬ (bev 0 (t.take 4) = 0 ∨ bev 0 (t.take 4) > size - out.length)) : apf base size out (2 :: t) = apf base size (out ++ slc t 4 (bev 0 (t.take 4))) (t.drop (4 + bev 0 (t.take 4))) := by rw [apf]; simp [h, hb, hc]
theorem apf_o (h1 : x ≠ 1) (h2 : x ≠ 2) : apf base size out (x :: t) = ([], 16) := by rw [apf]; simp [h1, h2]
theorem apt_cut (h : t.length < 8) : apt base t = ([], 14) := by rw [apt, if_pos h]
theorem apt_arg (h : ¬ t.length < 8) (h2 : bev 0 (t.take 4) ≠ base.length) : apt base t = ([], 1) := by rw [apt, if_neg h, if_pos h2]
theorem apt_go (h : ¬ t.length < 8) (h2 : bev 0 (t.take 4) = base.length) : apt base t = apf base (bev 0 (slc t 4 4)) [] (t.drop 8) := by rw [apt, if_neg h, if_neg (by simpa using h2)]
theorem slc_len (l : List UInt8) (a n : Nat) (h : a + n ≤ l.length) : (slc l a n).length = n := by simp [slc]; omega
theorem u8n {x : UInt8} {n : Nat} (hn : n < 256) (h : (x.toNat : Int) = n) : x = UInt8.ofNat n := by apply UInt8.toNat_inj.1; rw [UInt8.toNat_ofNat', Nat.mod_eq_of_lt hn]; omega
end

set_option maxHeartbeats 4000000 in
theorem rapply_ct (v1 v2 : Value) (bs d : List UInt8) (w0 : World) (H0 : Heap)
    (hb : RdT H0 fB 1 v1 bs) (hd : RdT H0 fB 1 v2 d) (hbl : bs.length ≤ 1048576) (hdl : d.length ≤ 1048576) :
    Ct Try.prog w0 9 #[v1, v2] H0 (fun r H2 => ∃ v : Value, ∃ k : Nat, ∃ x : List UInt8, ∃ e : Int, r = .tuple #[v, .int .i64 e] ∧ (Qr k H2 fB 1 v x) ∧ (Nx 0 H0.size k) ∧ (apt bs d = (x, e)) ∧ Nw H0 H2) := by
  refine Ct.enter (args := [v1, v2]) Try.func9 rfl rfl rfl ?_
  intro Q0 hret
  have hm0 : Nw H0 H0 := Mo.refl _ _
  replace hb := hb.bnd
  have bf_hb := Rd.bf hb
  replace hd := hd.bnd
  have bf_hd := Rd.bf hd
  refine CW.seq (fun K1 hK1 hE1 => ?_)
  refine CW.region ?_
  refine LR.v (Y.assign rfl rfl) (Wd.u rfl) rfl rfl ?_
  refine LR.v (Y.assign rfl rfl) (Wd.u rfl) rfl rfl ?_
  refine LR.nil ?_
  refine hK1 _ _ ?_
  refine CW.seq (fun K2 hK2 hE2 => ?_)
  refine CW.seq (fun K3 hK3 hE3 => ?_)
  refine CW.region ?_
  refine LR.v (Y.move rfl rfl) (Wd.u rfl) rfl rfl ?_
  refine LR.v (Y.len hd rfl Try.runUnderlying22 rfl) (Wd.u rfl) rfl rfl ?_
  refine LR.v (Y.lss rfl rfl rfl) (Wd.u rfl) rfl rfl ?_
  refine LR.nil ?_
  refine hK3 _ _ ?_
  refine CW.condp rfl (fun c14 => ?_) (fun c14 => ?_)
  ·
    refine CW.seq (fun K4 hK4 hE4 => ?_)
    refine CW.region ?_
    refine LR.v (Y.assign rfl rfl) (Wd.u rfl) rfl rfl ?_
    refine LR.v (Y.assign rfl rfl) (Wd.u rfl) rfl rfl ?_
    refine LR.nil ?_
    refine hK4 _ _ ?_
    refine CW.ret (hE2 .ret nofun _ _ (hret .ret (.inr rfl) _ _ _ (res2 rfl rfl rfl) ?_))
    exact ⟨_, 0, [], 14, rfl, Qr.nil _ _ _, Nx.refl _ _, apt_cut (by omega), hm0⟩
  ·
    refine CW.skip ?_
    refine hK2 _ _ ?_
    refine CW.seq (fun K5 hK5 hE5 => ?_)
    refine CW.seq (fun K6 hK6 hE6 => ?_)
    refine CW.region ?_
    refine LR.v (Y.move rfl rfl) (Wd.u rfl) rfl rfl ?_
    -- call selvage/selvageref1.Get
    refine LR.call rfl Try.call16 rfl (Wd.u rfl) rfl rfl (get_ct v2 d (0) 4 w0 _ hd.any (by omega) (by omega)) (fun v16 H16 r16 => ?_)
    obtain ⟨rfl, hs16⟩ := r16
    replace hb := hb.nw hs16
    replace hd := hd.nw hs16
    replace hm0 := hm0.tr hs16
    have hz1 := hs16.size
    rw [List.drop_zero]
    refine LR.v (Y.move rfl rfl) (Wd.u rfl) rfl rfl ?_
    refine LR.v (Y.len hb rfl Try.runUnderlying22 rfl) (Wd.u rfl) rfl rfl ?_
    refine LR.v (Y.neq rfl rfl rfl) (Wd.u rfl) rfl rfl ?_
    refine LR.nil ?_
    refine hK6 _ _ ?_
    refine CW.condp rfl (fun c19 => ?_) (fun c19 => ?_)
    ·
      refine CW.seq (fun K7 hK7 hE7 => ?_)
      refine CW.region ?_
      refine LR.v (Y.assign rfl rfl) (Wd.u rfl) rfl rfl ?_
      refine LR.v (Y.assign rfl rfl) (Wd.u rfl) rfl rfl ?_
      refine LR.nil ?_
      refine hK7 _ _ ?_
      refine CW.ret (hE5 .ret nofun _ _ (hret .ret (.inr rfl) _ _ _ (res2 rfl rfl rfl) ?_))
      exact ⟨_, 0, [], 1, rfl, Qr.nil _ _ _, Nx.refl _ _, apt_arg (by omega) (by omega), hm0⟩
    ·
      refine CW.skip ?_
      refine hK5 _ _ ?_
      refine CW.seq (fun K8 hK8 hE8 => ?_)
      refine CW.region ?_
      refine LR.v (Y.move rfl rfl) (Wd.u rfl) rfl rfl ?_
      -- call selvage/selvageref1.Get
      refine LR.call rfl Try.call16 rfl (Wd.u rfl) rfl rfl (get_ct v2 d (4) 4 w0 _ hd.any (by omega) (by omega)) (fun v21 H21 r21 => ?_)
      obtain ⟨rfl, hs21⟩ := r21
      replace hb := hb.nw hs21
      replace hd := hd.nw hs21
      replace hm0 := hm0.tr hs21
      have hz2 := hs21.size
      have hs4 := bev4 ((d.drop 4).take 4) (by simp; omega)
      generalize hsz2 : bev 0 ((d.drop 4).take 4) = size at hs4 ⊢
      have hsz : bev 0 (slc d 4 4) = size := hsz2
      have hgo := apt_go (base := bs) (t := d) (by omega) (by omega)
      rw [hsz] at hgo
      refine LR.v (Y.assign rfl rfl) (Wd.u rfl) rfl rfl ?_
      refine LR.nil ?_
      refine hK8 _ _ ?_
      refine CW.seq (fun K9 hK9 hE9 => ?_)
      refine CW.region ?_
      refine LR.v (Y.assign rfl rfl) (Wd.u rfl) rfl rfl ?_
      refine LR.nil ?_
      refine hK9 _ _ ?_
      refine CW.seq (fun K10 hK10 hE10 => ?_)
      refine CW.seq (fun K11 hK11 hE11 => ?_)
      refine CW.region ?_
      refine LR.v (Y.assign rfl rfl) (Wd.u rfl) rfl rfl ?_
      refine LR.nil ?_
      refine hK11 _ _ ?_
      refine CW.block (fun K12 hK12 hX12 hE12 => ?_)
      refine CW.loop (fun (s_ : (Nat) × (Value) × (Nat) × (List UInt8)) => match s_ with | (at_, vo, ko, out) => [(0, v1), (1, v2), (6, .int .i64 size), (7, vo), (8, .int .i64 at_)])
        (fun (s_ : (Nat) × (Value) × (Nat) × (List UInt8)) (H : Heap) => match s_ with | (at_, vo, ko, out) => (8 ≤ at_ ∧ at_ ≤ d.length) ∧ (Ow ko 5 H fB 1 vo out) ∧ (out.length ≤ size) ∧ (apf bs size out (d.drop at_) = apt bs d) ∧ (Nx 0 H21.size ko) ∧ Nw H21 H)
        (fun (s_ : (Nat) × (Value) × (Nat) × (List UInt8)) => match s_ with | (at_, vo, ko, out) => d.length - at_) (8, .slice none 0 0, 0, []) ⟨rfl, rfl, rfl, rfl, rfl, trivial⟩ ?_ ?_
      ·
        exact ⟨(by omega), Ow.nil fB_len fB_one, (Nat.zero_le _), hgo.symm, Nx.refl _ _, Mo.refl _ _⟩
      rintro ⟨at_, vo, ko, out⟩ HL1 hI1 K13 hN13 hE13
      obtain ⟨hat, ow7, hol, hap, nxl_ow7, hlm1⟩ := hI1
      have df1 := DF.app (DF.z) (bf_hb.mono hm0.size) nxl_ow7
      have df2 := DF.app (DF.z) (bf_hd.mono hm0.size) nxl_ow7
      have nx3 : Nx 0 H0.size ko := Nx.tr (Nx.refl 0 _) nxl_ow7 hm0.size
      replace hb := hb.nw hlm1
      replace hd := hd.nw hlm1
      replace hm0 := hm0.tr hlm1
      have hz3 := hlm1.size
      have hle_ow7 := ow7.le
      have nx4 := nxl_ow7
      refine CW.seq (fun K14 hK14 hE14 => ?_)
      refine CW.seq (fun K15 hK15 hE15 => ?_)
      refine CW.region ?_
      refine LR.v (Y.move rfl rfl) (Wd.u rfl) rfl rfl ?_
      refine LR.v (Y.move rfl rfl) (Wd.u rfl) rfl rfl ?_
      refine LR.v (Y.len hd rfl Try.runUnderlying22 rfl) (Wd.u rfl) rfl rfl ?_
      refine LR.v (Y.lss rfl rfl rfl) (Wd.u rfl) rfl rfl ?_
      refine LR.nil ?_
      refine hK15 _ _ ?_
      refine CW.condp rfl (fun c25 => ?_) (fun c25 => ?_)
      ·
        have hdc : d.drop at_ = d[at_] :: d.drop (at_ + 1) := List.drop_eq_getElem_cons (by omega)
        rw [hdc] at hap
        have htl : (d.drop (at_ + 1)).length = d.length - (at_ + 1) := by simp
        refine CW.skip ?_
        refine hK14 _ _ ?_
        refine CW.block (fun K16 hK16 hX16 hE16 => ?_)
        refine CW.seq (fun K17 hK17 hE17 => ?_)
        refine CW.region ?_
        refine LR.v (Y.move rfl rfl) (Wd.u rfl) rfl rfl ?_
        refine LR.v (Y.move rfl rfl) (Wd.u rfl) rfl rfl ?_
        refine LR.e (g := fun ad => .pointer (some ad)) (Y.indexAddr hd (at_) rfl Try.runUnderlying22 Try.sizeOf5 rfl rfl (by first | rfl | omega) (by first | omega | (simp; omega) | (simp; done))) (Wd.u rfl) rfl rfl (fun ad28 pt28 => ?_)
        refine LR.v (Y.load1 pt28 rfl Try.isAgg5 rfl) (Wd.u rfl) rfl rfl ?_
        refine LR.nil ?_
        refine hK17 _ _ ?_
        refine CW.block (fun K18 hK18 hX18 hE18 => ?_)
        refine CW.seq (fun K19 hK19 hE19 => ?_)
        refine CW.region ?_
        refine LR.v (Y.eql rfl rfl rfl) (Wd.u rfl) rfl rfl ?_
        refine LR.v (Y.assign rfl rfl) (Wd.u rfl) rfl rfl ?_
        refine LR.nil ?_
        refine hK19 _ _ ?_
        refine CW.condp rfl (fun c30 => ?_) (fun c30 => ?_)
        ·
          rw [show d[at_] = 1 from u8n (n := 1) (by decide) (by omega)] at hap
          refine CW.seq (fun K20 hK20 hE20 => ?_)
          refine CW.seq (fun K21 hK21 hE21 => ?_)
          refine CW.region ?_
          refine LR.v (Y.move rfl rfl) (Wd.u rfl) rfl rfl ?_
          refine LR.v (Y.len hd rfl Try.runUnderlying22 rfl) (Wd.u rfl) rfl rfl ?_
          refine LR.v (Y.move rfl rfl) (Wd.u rfl) rfl rfl ?_
          refine LR.v (Y.subi rfl rfl rfl (by omega)) (Wd.u rfl) rfl rfl ?_
          refine LR.v (Y.lss rfl rfl rfl) (Wd.u rfl) rfl rfl ?_
          refine LR.nil ?_
          refine hK21 _ _ ?_
          refine CW.condp rfl (fun c36 => ?_) (fun c36 => ?_)
          ·
            refine CW.seq (fun K22 hK22 hE22 => ?_)
            refine CW.region ?_
            refine LR.v (Y.assign rfl rfl) (Wd.u rfl) rfl rfl ?_
            refine LR.v (Y.assign rfl rfl) (Wd.u rfl) rfl rfl ?_
            refine LR.nil ?_
            refine hK22 _ _ ?_
            refine CW.ret (hE20 .ret nofun _ _ (hE18 .ret nofun (by simp) _ _ (hE16 .ret nofun (by simp) _ _ (hE13 .ret nofun _ _ (hE12 .ret nofun (by simp) _ _ (hE10 .ret nofun _ _ (hret .ret (.inr rfl) _ _ _ (res2 rfl rfl rfl) ?_)))))))
            exact ⟨_, 0, [], _, rfl, Qr.nil _ _ _, Nx.refl _ _, by first | (rw [← hap, apf_c1 (by omega)]; done) | (rw [← hap, apf_c2 (by omega) (by rw [ha, hn2]; unfold bad1; omega)]; done) | (rw [← hap, apf_i1 (by omega)]; done) | (rw [← hap, apf_i2 (by omega) (by rw [hn]; omega)]; done) | (rw [← hap, apf_i3 (by omega) (by rw [hn]; omega) (by rw [hn]; omega)]; done) | (rw [← hap, apf_o (fun e => c30 (by rw [e]; rfl)) (fun e => c79 (by rw [e]; rfl))]; done) | (rw [← hap, if_neg (by omega)]; done), hm0⟩
          ·
            refine CW.skip ?_
            refine hK20 _ _ ?_
            refine CW.seq (fun K23 hK23 hE23 => ?_)
            refine CW.region ?_
            refine LR.v (Y.move rfl rfl) (Wd.u rfl) rfl rfl ?_
            refine LR.v (Y.move rfl rfl) (Wd.u rfl) rfl rfl ?_
            refine LR.v (Y.addi rfl rfl rfl (by omega)) (Wd.u rfl) rfl rfl ?_
            -- call selvage/selvageref1.Get
            refine LR.call rfl Try.call16 rfl (Wd.u rfl) rfl rfl (get_ct v2 d (at_ + 1) 4 w0 _ hd.any (by omega) (by omega)) (fun v40 H40 r40 => ?_)
            obtain ⟨rfl, hs40⟩ := r40
            replace hb := hb.nw hs40
            replace hd := hd.nw hs40
            replace ow7 := ow7.nw hs40
            replace hm0 := hm0.tr hs40
            replace hlm1 := hlm1.tr hs40
            have hz4 := hs40.size
            have ha4 := bev4 ((d.drop (at_ + 1)).take 4) (by simp; omega)
            generalize ha : bev 0 ((d.drop (at_ + 1)).take 4) = a at ha4 ⊢
            refine LR.v (Y.move rfl rfl) (Wd.u rfl) rfl rfl ?_
            refine LR.v (Y.move rfl rfl) (Wd.u rfl) rfl rfl ?_
            refine LR.v (Y.addi rfl rfl rfl (by omega)) (Wd.u rfl) rfl rfl ?_
            -- call selvage/selvageref1.Get
            refine LR.call rfl Try.call16 rfl (Wd.u rfl) rfl rfl (get_ct v2 d (at_ + 5) 4 w0 _ hd.any (by omega) (by omega)) (fun v44 H44 r44 => ?_)
            obtain ⟨rfl, hs44⟩ := r44
            replace hb := hb.nw hs44
            replace hd := hd.nw hs44
            replace ow7 := ow7.nw hs44
            replace hm0 := hm0.tr hs44
            replace hlm1 := hlm1.tr hs44
            have hz5 := hs44.size
            have hn4 := bev4 ((d.drop (at_ + 5)).take 4) (by simp; omega)
            generalize hn : bev 0 ((d.drop (at_ + 5)).take 4) = n at hn4 ⊢
            have hn2 : bev 0 (slc (d.drop (at_ + 1)) 4 4) = n := by rw [← hn, slc, List.drop_drop, show at_ + 1 + 4 = at_ + 5 by omega]
            have h8 : ¬ (d.drop (at_ + 1)).length < 8 := by omega
            refine LR.v (Y.assign rfl rfl) (Wd.u rfl) rfl rfl ?_
            refine LR.v (Y.assign rfl rfl) (Wd.u rfl) rfl rfl ?_
            refine LR.nil ?_
            refine hK23 _ _ ?_
            refine CW.seq (fun K24 hK24 hE24 => ?_)
            refine CW.seq (fun K25 hK25 hE25 => ?_)
            refine CW.region ?_
            refine LR.v (Y.move rfl rfl) (Wd.u rfl) rfl rfl ?_
            refine LR.v (Y.eql rfl rfl rfl) (Wd.u rfl) rfl rfl ?_
            refine LR.v (Y.move rfl rfl) (Wd.u rfl) rfl rfl ?_
            refine LR.splitp (d := 47) rfl (fun g47 => ?_) (fun g47 => ?_)
            ·
              refine LR.gs rfl rfl rfl rfl rfl rfl ?_
              refine LR.gs rfl rfl rfl rfl rfl rfl ?_
              refine LR.gs rfl rfl rfl rfl rfl rfl ?_
              refine LR.gs rfl rfl rfl rfl rfl rfl ?_
              refine LR.v (Y.pick_t rfl rfl rfl) (Wd.u rfl) rfl rfl ?_
              refine LR.v (Y.move rfl rfl) (Wd.u rfl) rfl rfl ?_
              refine LR.gs rfl rfl rfl rfl rfl rfl ?_
              refine LR.gs rfl rfl rfl rfl rfl rfl ?_
              refine LR.gs rfl rfl rfl rfl rfl rfl ?_
              refine LR.gs rfl rfl rfl rfl rfl rfl ?_
              refine LR.gs rfl rfl rfl rfl rfl rfl ?_
              refine LR.gs rfl rfl rfl rfl rfl rfl ?_
              refine LR.v (Y.pick_t rfl rfl rfl) (Wd.u rfl) rfl rfl ?_
              refine LR.v (Y.move rfl rfl) (Wd.u rfl) rfl rfl ?_
              refine LR.gs rfl rfl rfl rfl rfl rfl ?_
              refine LR.gs rfl rfl rfl rfl rfl rfl ?_
              refine LR.gs rfl rfl rfl rfl rfl rfl ?_
              refine LR.gs rfl rfl rfl rfl rfl rfl ?_
              refine LR.gs rfl rfl rfl rfl rfl rfl ?_
              refine LR.gs rfl rfl rfl rfl rfl rfl ?_
              refine LR.v (Y.pick_t rfl rfl rfl) (Wd.u rfl) rfl rfl ?_
              refine LR.nil ?_
              refine hK25 _ _ ?_
              refine CW.cond_t rfl ?_
              refine CW.seq (fun K26 hK26 hE26 => ?_)
              refine CW.region ?_
              refine LR.v (Y.assign rfl rfl) (Wd.u rfl) rfl rfl ?_
              refine LR.v (Y.assign rfl rfl) (Wd.u rfl) rfl rfl ?_
              refine LR.nil ?_
              refine hK26 _ _ ?_
              refine CW.ret (hE24 .ret nofun _ _ (hE18 .ret nofun (by simp) _ _ (hE16 .ret nofun (by simp) _ _ (hE13 .ret nofun _ _ (hE12 .ret nofun (by simp) _ _ (hE10 .ret nofun _ _ (hret .ret (.inr rfl) _ _ _ (res2 rfl rfl rfl) ?_)))))))
              exact ⟨_, 0, [], _, rfl, Qr.nil _ _ _, Nx.refl _ _, by first | (rw [← hap, apf_c1 (by omega)]; done) | (rw [← hap, apf_c2 (by omega) (by rw [ha, hn2]; unfold bad1; omega)]; done) | (rw [← hap, apf_i1 (by omega)]; done) | (rw [← hap, apf_i2 (by omega) (by rw [hn]; omega)]; done) | (rw [← hap, apf_i3 (by omega) (by rw [hn]; omega) (by rw [hn]; omega)]; done) | (rw [← hap, apf_o (fun e => c30 (by rw [e]; rfl)) (fun e => c79 (by rw [e]; rfl))]; done) | (rw [← hap, if_neg (by omega)]; done), hm0⟩
            ·
              refine LR.v (Y.move rfl rfl) (Wd.g rfl rfl rfl) rfl rfl ?_
              refine LR.v (Y.move rfl rfl) (Wd.g rfl rfl rfl) rfl rfl ?_
              refine LR.v (Y.len hb rfl Try.runUnderlying22 rfl) (Wd.g rfl rfl rfl) rfl rfl ?_
              refine LR.v (Y.gtr rfl rfl rfl) (Wd.g rfl rfl rfl) rfl rfl ?_
              refine LR.v (Y.pick_f rfl rfl rfl) (Wd.u rfl) rfl rfl ?_
              refine LR.v (Y.move rfl rfl) (Wd.u rfl) rfl rfl ?_
              refine LR.splitp (d := 53) rfl (fun g53 => ?_) (fun g53 => ?_)
              ·
                refine LR.gs rfl rfl rfl rfl rfl rfl ?_
                refine LR.gs rfl rfl rfl rfl rfl rfl ?_
                refine LR.gs rfl rfl rfl rfl rfl rfl ?_
                refine LR.gs rfl rfl rfl rfl rfl rfl ?_
                refine LR.gs rfl rfl rfl rfl rfl rfl ?_
                refine LR.gs rfl rfl rfl rfl rfl rfl ?_
                refine LR.v (Y.pick_t rfl rfl rfl) (Wd.u rfl) rfl rfl ?_
                refine LR.v (Y.move rfl rfl) (Wd.u rfl) rfl rfl ?_
                refine LR.gs rfl rfl rfl rfl rfl rfl ?_
                refine LR.gs rfl rfl rfl rfl rfl rfl ?_
                refine LR.gs rfl rfl rfl rfl rfl rfl ?_
                refine LR.gs rfl rfl rfl rfl rfl rfl ?_
                refine LR.gs rfl rfl rfl rfl rfl rfl ?_
                refine LR.gs rfl rfl rfl rfl rfl rfl ?_
                refine LR.v (Y.pick_t rfl rfl rfl) (Wd.u rfl) rfl rfl ?_
                refine LR.nil ?_
                refine hK25 _ _ ?_
                refine CW.cond_t rfl ?_
                refine CW.seq (fun K27 hK27 hE27 => ?_)
                refine CW.region ?_
                refine LR.v (Y.assign rfl rfl) (Wd.u rfl) rfl rfl ?_
                refine LR.v (Y.assign rfl rfl) (Wd.u rfl) rfl rfl ?_
                refine LR.nil ?_
                refine hK27 _ _ ?_
                refine CW.ret (hE24 .ret nofun _ _ (hE18 .ret nofun (by simp) _ _ (hE16 .ret nofun (by simp) _ _ (hE13 .ret nofun _ _ (hE12 .ret nofun (by simp) _ _ (hE10 .ret nofun _ _ (hret .ret (.inr rfl) _ _ _ (res2 rfl rfl rfl) ?_)))))))
                exact ⟨_, 0, [], _, rfl, Qr.nil _ _ _, Nx.refl _ _, by first | (rw [← hap, apf_c1 (by omega)]; done) | (rw [← hap, apf_c2 (by omega) (by rw [ha, hn2]; unfold bad1; omega)]; done) | (rw [← hap, apf_i1 (by omega)]; done) | (rw [← hap, apf_i2 (by omega) (by rw [hn]; omega)]; done) | (rw [← hap, apf_i3 (by omega) (by rw [hn]; omega) (by rw [hn]; omega)]; done) | (rw [← hap, apf_o (fun e => c30 (by rw [e]; rfl)) (fun e => c79 (by rw [e]; rfl))]; done) | (rw [← hap, if_neg (by omega)]; done), hm0⟩
              ·
                refine LR.v (Y.move rfl rfl) (Wd.g rfl rfl rfl) rfl rfl ?_
                refine LR.v (Y.move rfl rfl) (Wd.g rfl rfl rfl) rfl rfl ?_
                refine LR.v (Y.len hb rfl Try.runUnderlying22 rfl) (Wd.g rfl rfl rfl) rfl rfl ?_
                refine LR.v (Y.move rfl rfl) (Wd.g rfl rfl rfl) rfl rfl ?_
                refine LR.v (Y.subi rfl rfl rfl (by omega)) (Wd.g rfl rfl rfl) rfl rfl ?_
                refine LR.v (Y.gtr rfl rfl rfl) (Wd.g rfl rfl rfl) rfl rfl ?_
                refine LR.v (Y.pick_f rfl rfl rfl) (Wd.u rfl) rfl rfl ?_
                refine LR.v (Y.move rfl rfl) (Wd.u rfl) rfl rfl ?_
                refine LR.splitp (d := 61) rfl (fun g61 => ?_) (fun g61 => ?_)
                ·
                  refine LR.gs rfl rfl rfl rfl rfl rfl ?_
                  refine LR.gs rfl rfl rfl rfl rfl rfl ?_
                  refine LR.gs rfl rfl rfl rfl rfl rfl ?_
                  refine LR.gs rfl rfl rfl rfl rfl rfl ?_
                  refine LR.gs rfl rfl rfl rfl rfl rfl ?_
                  refine LR.gs rfl rfl rfl rfl rfl rfl ?_
                  refine LR.v (Y.pick_t rfl rfl rfl) (Wd.u rfl) rfl rfl ?_
                  refine LR.nil ?_
                  refine hK25 _ _ ?_
                  refine CW.cond_t rfl ?_
                  refine CW.seq (fun K28 hK28 hE28 => ?_)
                  refine CW.region ?_
                  refine LR.v (Y.assign rfl rfl) (Wd.u rfl) rfl rfl ?_
                  refine LR.v (Y.assign rfl rfl) (Wd.u rfl) rfl rfl ?_
                  refine LR.nil ?_
                  refine hK28 _ _ ?_
                  refine CW.ret (hE24 .ret nofun _ _ (hE18 .ret nofun (by simp) _ _ (hE16 .ret nofun (by simp) _ _ (hE13 .ret nofun _ _ (hE12 .ret nofun (by simp) _ _ (hE10 .ret nofun _ _ (hret .ret (.inr rfl) _ _ _ (res2 rfl rfl rfl) ?_)))))))
                  exact ⟨_, 0, [], _, rfl, Qr.nil _ _ _, Nx.refl _ _, by first | (rw [← hap, apf_c1 (by omega)]; done) | (rw [← hap, apf_c2 (by omega) (by rw [ha, hn2]; unfold bad1; omega)]; done) | (rw [← hap, apf_i1 (by omega)]; done) | (rw [← hap, apf_i2 (by omega) (by rw [hn]; omega)]; done) | (rw [← hap, apf_i3 (by omega) (by rw [hn]; omega) (by rw [hn]; omega)]; done) | (rw [← hap, apf_o (fun e => c30 (by rw [e]; rfl)) (fun e => c79 (by rw [e]; rfl))]; done) | (rw [← hap, if_neg (by omega)]; done), hm0⟩
                ·
                  refine LR.v (Y.move rfl rfl) (Wd.g rfl rfl rfl) rfl rfl ?_
                  refine LR.v (Y.move rfl rfl) (Wd.g rfl rfl rfl) rfl rfl ?_
                  refine LR.v (Y.move rfl rfl) (Wd.g rfl rfl rfl) rfl rfl ?_
                  refine LR.v (Y.len ow7.rd rfl Try.runUnderlying22 rfl) (Wd.g rfl rfl rfl) rfl rfl ?_
                  refine LR.v (Y.subi rfl rfl rfl (by omega)) (Wd.g rfl rfl rfl) rfl rfl ?_
                  refine LR.v (Y.gtr rfl rfl rfl) (Wd.g rfl rfl rfl) rfl rfl ?_
                  refine LR.v (Y.pick_f rfl rfl rfl) (Wd.u rfl) rfl rfl ?_
                  refine LR.nil ?_
                  refine hK25 _ _ ?_
                  refine CW.condp rfl (fun c68 => ?_) (fun c68 => ?_)
                  ·
                    refine CW.seq (fun K29 hK29 hE29 => ?_)
                    refine CW.region ?_
                    refine LR.v (Y.assign rfl rfl) (Wd.u rfl) rfl rfl ?_
                    refine LR.v (Y.assign rfl rfl) (Wd.u rfl) rfl rfl ?_
                    refine LR.nil ?_
                    refine hK29 _ _ ?_
                    refine CW.ret (hE24 .ret nofun _ _ (hE18 .ret nofun (by simp) _ _ (hE16 .ret nofun (by simp) _ _ (hE13 .ret nofun _ _ (hE12 .ret nofun (by simp) _ _ (hE10 .ret nofun _ _ (hret .ret (.inr rfl) _ _ _ (res2 rfl rfl rfl) ?_)))))))
                    exact ⟨_, 0, [], _, rfl, Qr.nil _ _ _, Nx.refl _ _, by first | (rw [← hap, apf_c1 (by omega)]; done) | (rw [← hap, apf_c2 (by omega) (by rw [ha, hn2]; unfold bad1; omega)]; done) | (rw [← hap, apf_i1 (by omega)]; done) | (rw [← hap, apf_i2 (by omega) (by rw [hn]; omega)]; done) | (rw [← hap, apf_i3 (by omega) (by rw [hn]; omega) (by rw [hn]; omega)]; done) | (rw [← hap, apf_o (fun e => c30 (by rw [e]; rfl)) (fun e => c79 (by rw [e]; rfl))]; done) | (rw [← hap, if_neg (by omega)]; done), hm0⟩
                  ·
                    have hbd : ¬ bad1 bs size out (bev 0 ((d.drop (at_ + 1)).take 4)) (bev 0 (slc (d.drop (at_ + 1)) 4 4)) := by rw [ha, hn2]; unfold bad1; omega
                    rw [apf_c3 h8 hbd, ha, hn2, List.drop_drop] at hap
                    refine CW.skip ?_
                    refine hK24 _ _ ?_
                    refine CW.seq (fun K30 hK30 hE30 => ?_)
                    refine CW.region ?_
                    refine LR.v (Y.move rfl rfl) (Wd.u rfl) rfl rfl ?_
                    refine LR.v (Y.move rfl rfl) (Wd.u rfl) rfl rfl ?_
                    refine LR.v (Y.move rfl rfl) (Wd.u rfl) rfl rfl ?_
                    refine LR.v (Y.move rfl rfl) (Wd.u rfl) rfl rfl ?_
                    refine LR.v (Y.move rfl rfl) (Wd.u rfl) rfl rfl ?_
                    refine LR.v (Y.addi rfl rfl rfl (by omega)) (Wd.u rfl) rfl rfl ?_
                    refine LR.e (g := fun v => v) (Y.slice hb (a) (a + n) rfl Try.runUnderlying22 Try.sizeOf5 rfl (.inr ⟨_, _, _, rfl, rfl, by first | rfl | omega⟩) (.inr ⟨_, _, _, rfl, rfl, by first | rfl | omega⟩) (by omega) (by omega)) (Wd.u rfl) rfl rfl (fun v75 rd75 => ?_)
                    have bf_rd75 := bf_hb
                    have hsl : (bs.take (a + n)).drop a = slc bs a n := by rw [slc, List.take_drop]
                    rw [hsl] at rd75
                    have hsn := slc_len bs a n (by omega)
                    refine LR.z (Z.apnd ow7 rd75 rfl inf22 rfl rfl (by omega) (by omega)) (Wd.u rfl) rfl rfl (fun v76 H76 r76 => ?_)
                    obtain ⟨k76, ow76, hk76, hs76⟩ := r76
                    replace hk76 : Nx ko H44.size k76 := hk76
                    replace hs76 := hs76.md
                    have df5 := DF.app (df1) (bf_hb.mono hm0.size) hk76
                    have df6 := DF.app (df2) (bf_hd.mono hm0.size) hk76
                    have df7 := DF.app (df1) (bf_rd75.mono hm0.size) hk76
                    have nx8 : Nx 0 H0.size k76 := Nx.tr (nx3) hk76 hm0.size
                    have nx9 : Nx 0 H21.size k76 := Nx.tr (nx4) hk76 hlm1.size
                    replace hb := hb.upL hs76 (DFL.cons df1 DFL.nil)
                    replace hd := hd.upL hs76 (DFL.cons df2 DFL.nil)
                    replace rd75 := rd75.upL hs76 (DFL.cons df1 DFL.nil)
                    replace hm0 := (Mo.trL (ks := []) (hm0.mdn []) hs76 (MIL.cons (MI.app MI.z (nx3) (Nat.le_refl _)) MIL.nil)).nil
                    replace hlm1 := (Mo.trL (ks := []) (hlm1.mdn []) hs76 (MIL.cons (MI.app MI.z (nx4) (Nat.le_refl _)) MIL.nil)).nil
                    have hz6 := hs76.size
                    have hle_ow76 := ow76.le
                    refine LR.v (Y.assign rfl rfl) (Wd.u rfl) rfl rfl ?_
                    refine LR.nil ?_
                    refine hK30 _ _ ?_
                    refine CW.region ?_
                    refine LR.v (Y.move rfl rfl) (Wd.u rfl) rfl rfl ?_
                    refine LR.v (Y.addi rfl rfl rfl (by omega)) (Wd.u rfl) rfl rfl ?_
                    refine LR.v (Y.assign rfl rfl) (Wd.u rfl) rfl rfl ?_
                    refine LR.nil ?_
                    refine hK18 _ _ ?_
                    refine hK16 _ _ ?_
                    refine QN.sub (hN13 (at_ + 9, v76, k76, out ++ slc bs a n) _ ?_ ?_) ⟨rfl, rfl, (iv (by omega)), rfl, (iv (by omega)), trivial⟩
                    · exact ⟨(by omega), ow76, (by rw [List.length_append]; omega), by rw [← hap], nx9, hlm1⟩
                    · first | omega | (simp only; omega) | (simp; omega)
        ·
          refine CW.seq (fun K31 hK31 hE31 => ?_)
          refine CW.region ?_
          refine LR.v (Y.eql rfl rfl rfl) (Wd.u rfl) rfl rfl ?_
          refine LR.v (Y.assign rfl rfl) (Wd.u rfl) rfl rfl ?_
          refine LR.nil ?_
          refine hK31 _ _ ?_
          refine CW.condp rfl (fun c79 => ?_) (fun c79 => ?_)
          ·
            rw [show d[at_] = 2 from u8n (n := 2) (by decide) (by omega)] at hap
            refine CW.seq (fun K32 hK32 hE32 => ?_)
            refine CW.seq (fun K33 hK33 hE33 => ?_)
            refine CW.region ?_
            refine LR.v (Y.move rfl rfl) (Wd.u rfl) rfl rfl ?_
            refine LR.v (Y.len hd rfl Try.runUnderlying22 rfl) (Wd.u rfl) rfl rfl ?_
            refine LR.v (Y.move rfl rfl) (Wd.u rfl) rfl rfl ?_
            refine LR.v (Y.subi rfl rfl rfl (by omega)) (Wd.u rfl) rfl rfl ?_
            refine LR.v (Y.lss rfl rfl rfl) (Wd.u rfl) rfl rfl ?_
            refine LR.nil ?_
            refine hK33 _ _ ?_
            refine CW.condp rfl (fun c85 => ?_) (fun c85 => ?_)
            ·
              refine CW.seq (fun K34 hK34 hE34 => ?_)
              refine CW.region ?_
              refine LR.v (Y.assign rfl rfl) (Wd.u rfl) rfl rfl ?_
              refine LR.v (Y.assign rfl rfl) (Wd.u rfl) rfl rfl ?_
              refine LR.nil ?_
              refine hK34 _ _ ?_
              refine CW.ret (hE32 .ret nofun _ _ (hE18 .ret nofun (by simp) _ _ (hE16 .ret nofun (by simp) _ _ (hE13 .ret nofun _ _ (hE12 .ret nofun (by simp) _ _ (hE10 .ret nofun _ _ (hret .ret (.inr rfl) _ _ _ (res2 rfl rfl rfl) ?_)))))))
              exact ⟨_, 0, [], _, rfl, Qr.nil _ _ _, Nx.refl _ _, by first | (rw [← hap, apf_c1 (by omega)]; done) | (rw [← hap, apf_c2 (by omega) (by rw [ha, hn2]; unfold bad1; omega)]; done) | (rw [← hap, apf_i1 (by omega)]; done) | (rw [← hap, apf_i2 (by omega) (by rw [hn]; omega)]; done) | (rw [← hap, apf_i3 (by omega) (by rw [hn]; omega) (by rw [hn]; omega)]; done) | (rw [← hap, apf_o (fun e => c30 (by rw [e]; rfl)) (fun e => c79 (by rw [e]; rfl))]; done) | (rw [← hap, if_neg (by omega)]; done), hm0⟩
            ·
              refine CW.skip ?_
              refine hK32 _ _ ?_
              refine CW.seq (fun K35 hK35 hE35 => ?_)
              refine CW.region ?_
              refine LR.v (Y.move rfl rfl) (Wd.u rfl) rfl rfl ?_
              refine LR.v (Y.move rfl rfl) (Wd.u rfl) rfl rfl ?_
              refine LR.v (Y.addi rfl rfl rfl (by omega)) (Wd.u rfl) rfl rfl ?_
              -- call selvage/selvageref1.Get
              refine LR.call rfl Try.call16 rfl (Wd.u rfl) rfl rfl (get_ct v2 d (at_ + 1) 4 w0 _ hd.any (by omega) (by omega)) (fun v89 H89 r89 => ?_)
              obtain ⟨rfl, hs89⟩ := r89
              replace hb := hb.nw hs89
              replace hd := hd.nw hs89
              replace ow7 := ow7.nw hs89
              replace hm0 := hm0.tr hs89
              replace hlm1 := hlm1.tr hs89
              have hz7 := hs89.size
              have hn4 := bev4 ((d.drop (at_ + 1)).take 4) (by simp; omega)
              generalize hn : bev 0 ((d.drop (at_ + 1)).take 4) = n at hn4 ⊢
              have h4 : ¬ (d.drop (at_ + 1)).length < 4 := by omega
              refine LR.v (Y.assign rfl rfl) (Wd.u rfl) rfl rfl ?_
              refine LR.nil ?_
              refine hK35 _ _ ?_
              refine CW.seq (fun K36 hK36 hE36 => ?_)
              refine CW.seq (fun K37 hK37 hE37 => ?_)
              refine CW.region ?_
              refine LR.v (Y.move rfl rfl) (Wd.u rfl) rfl rfl ?_
              refine LR.v (Y.move rfl rfl) (Wd.u rfl) rfl rfl ?_
              refine LR.v (Y.len hd rfl Try.runUnderlying22 rfl) (Wd.u rfl) rfl rfl ?_
              refine LR.v (Y.move rfl rfl) (Wd.u rfl) rfl rfl ?_
              refine LR.v (Y.subi rfl rfl rfl (by omega)) (Wd.u rfl) rfl rfl ?_
              refine LR.v (Y.subi rfl rfl rfl (by omega)) (Wd.u rfl) rfl rfl ?_
              refine LR.v (Y.gtr rfl rfl rfl) (Wd.u rfl) rfl rfl ?_
              refine LR.nil ?_
              refine hK37 _ _ ?_
              refine CW.condp rfl (fun c96 => ?_) (fun c96 => ?_)
              ·
                refine CW.seq (fun K38 hK38 hE38 => ?_)
                refine CW.region ?_
                refine LR.v (Y.assign rfl rfl) (Wd.u rfl) rfl rfl ?_
                refine LR.v (Y.assign rfl rfl) (Wd.u rfl) rfl rfl ?_
                refine LR.nil ?_
                refine hK38 _ _ ?_
                refine CW.ret (hE36 .ret nofun _ _ (hE18 .ret nofun (by simp) _ _ (hE16 .ret nofun (by simp) _ _ (hE13 .ret nofun _ _ (hE12 .ret nofun (by simp) _ _ (hE10 .ret nofun _ _ (hret .ret (.inr rfl) _ _ _ (res2 rfl rfl rfl) ?_)))))))
                exact ⟨_, 0, [], _, rfl, Qr.nil _ _ _, Nx.refl _ _, by first | (rw [← hap, apf_c1 (by omega)]; done) | (rw [← hap, apf_c2 (by omega) (by rw [ha, hn2]; unfold bad1; omega)]; done) | (rw [← hap, apf_i1 (by omega)]; done) | (rw [← hap, apf_i2 (by omega) (by rw [hn]; omega)]; done) | (rw [← hap, apf_i3 (by omega) (by rw [hn]; omega) (by rw [hn]; omega)]; done) | (rw [← hap, apf_o (fun e => c30 (by rw [e]; rfl)) (fun e => c79 (by rw [e]; rfl))]; done) | (rw [← hap, if_neg (by omega)]; done), hm0⟩
              ·
                have hng : ¬ bev 0 ((d.drop (at_ + 1)).take 4) > (d.drop (at_ + 1)).length - 4 := by rw [hn]; omega
                refine CW.skip ?_
                refine hK36 _ _ ?_
                refine CW.seq (fun K39 hK39 hE39 => ?_)
                refine CW.seq (fun K40 hK40 hE40 => ?_)
                refine CW.region ?_
                refine LR.v (Y.move rfl rfl) (Wd.u rfl) rfl rfl ?_
                refine LR.v (Y.eql rfl rfl rfl) (Wd.u rfl) rfl rfl ?_
                refine LR.v (Y.move rfl rfl) (Wd.u rfl) rfl rfl ?_
                refine LR.splitp (d := 99) rfl (fun g99 => ?_) (fun g99 => ?_)
                ·
                  refine LR.gs rfl rfl rfl rfl rfl rfl ?_
                  refine LR.gs rfl rfl rfl rfl rfl rfl ?_
                  refine LR.gs rfl rfl rfl rfl rfl rfl ?_
                  refine LR.gs rfl rfl rfl rfl rfl rfl ?_
                  refine LR.gs rfl rfl rfl rfl rfl rfl ?_
                  refine LR.gs rfl rfl rfl rfl rfl rfl ?_
                  refine LR.v (Y.pick_t rfl rfl rfl) (Wd.u rfl) rfl rfl ?_
                  refine LR.nil ?_
                  refine hK40 _ _ ?_
                  refine CW.cond_t rfl ?_
                  refine CW.seq (fun K41 hK41 hE41 => ?_)
                  refine CW.region ?_
                  refine LR.v (Y.assign rfl rfl) (Wd.u rfl) rfl rfl ?_
                  refine LR.v (Y.assign rfl rfl) (Wd.u rfl) rfl rfl ?_
                  refine LR.nil ?_
                  refine hK41 _ _ ?_
                  refine CW.ret (hE39 .ret nofun _ _ (hE18 .ret nofun (by simp) _ _ (hE16 .ret nofun (by simp) _ _ (hE13 .ret nofun _ _ (hE12 .ret nofun (by simp) _ _ (hE10 .ret nofun _ _ (hret .ret (.inr rfl) _ _ _ (res2 rfl rfl rfl) ?_)))))))
                  exact ⟨_, 0, [], _, rfl, Qr.nil _ _ _, Nx.refl _ _, by first | (rw [← hap, apf_c1 (by omega)]; done) | (rw [← hap, apf_c2 (by omega) (by rw [ha, hn2]; unfold bad1; omega)]; done) | (rw [← hap, apf_i1 (by omega)]; done) | (rw [← hap, apf_i2 (by omega) (by rw [hn]; omega)]; done) | (rw [← hap, apf_i3 (by omega) (by rw [hn]; omega) (by rw [hn]; omega)]; done) | (rw [← hap, apf_o (fun e => c30 (by rw [e]; rfl)) (fun e => c79 (by rw [e]; rfl))]; done) | (rw [← hap, if_neg (by omega)]; done), hm0⟩
                ·
                  refine LR.v (Y.move rfl rfl) (Wd.g rfl rfl rfl) rfl rfl ?_
                  refine LR.v (Y.move rfl rfl) (Wd.g rfl rfl rfl) rfl rfl ?_
                  refine LR.v (Y.move rfl rfl) (Wd.g rfl rfl rfl) rfl rfl ?_
                  refine LR.v (Y.len ow7.rd rfl Try.runUnderlying22 rfl) (Wd.g rfl rfl rfl) rfl rfl ?_
                  refine LR.v (Y.subi rfl rfl rfl (by omega)) (Wd.g rfl rfl rfl) rfl rfl ?_
                  refine LR.v (Y.gtr rfl rfl rfl) (Wd.g rfl rfl rfl) rfl rfl ?_
                  refine LR.v (Y.pick_f rfl rfl rfl) (Wd.u rfl) rfl rfl ?_
                  refine LR.nil ?_
                  refine hK40 _ _ ?_
                  refine CW.condp rfl (fun c106 => ?_) (fun c106 => ?_)
                  ·
                    refine CW.seq (fun K42 hK42 hE42 => ?_)
                    refine CW.region ?_
                    refine LR.v (Y.assign rfl rfl) (Wd.u rfl) rfl rfl ?_
                    refine LR.v (Y.assign rfl rfl) (Wd.u rfl) rfl rfl ?_
                    refine LR.nil ?_
                    refine hK42 _ _ ?_
                    refine CW.ret (hE39 .ret nofun _ _ (hE18 .ret nofun (by simp) _ _ (hE16 .ret nofun (by simp) _ _ (hE13 .ret nofun _ _ (hE12 .ret nofun (by simp) _ _ (hE10 .ret nofun _ _ (hret .ret (.inr rfl) _ _ _ (res2 rfl rfl rfl) ?_)))))))
                    exact ⟨_, 0, [], _, rfl, Qr.nil _ _ _, Nx.refl _ _, by first | (rw [← hap, apf_c1 (by omega)]; done) | (rw [← hap, apf_c2 (by omega) (by rw [ha, hn2]; unfold bad1; omega)]; done) | (rw [← hap, apf_i1 (by omega)]; done) | (rw [← hap, apf_i2 (by omega) (by rw [hn]; omega)]; done) | (rw [← hap, apf_i3 (by omega) (by rw [hn]; omega) (by rw [hn]; omega)]; done) | (rw [← hap, apf_o (fun e => c30 (by rw [e]; rfl)) (fun e => c79 (by rw [e]; rfl))]; done) | (rw [← hap, if_neg (by omega)]; done), hm0⟩
                  ·
                    have hnc : ¬ (bev 0 ((d.drop (at_ + 1)).take 4) = 0 ∨ bev 0 ((d.drop (at_ + 1)).take 4) > size - out.length) := by rw [hn]; omega
                    rw [apf_i4 h4 hng hnc, hn, List.drop_drop] at hap
                    refine CW.skip ?_
                    refine hK39 _ _ ?_
                    refine CW.seq (fun K43 hK43 hE43 => ?_)
                    refine CW.region ?_
                    refine LR.v (Y.move rfl rfl) (Wd.u rfl) rfl rfl ?_
                    refine LR.v (Y.move rfl rfl) (Wd.u rfl) rfl rfl ?_
                    refine LR.v (Y.move rfl rfl) (Wd.u rfl) rfl rfl ?_
                    refine LR.v (Y.addi rfl rfl rfl (by omega)) (Wd.u rfl) rfl rfl ?_
                    refine LR.v (Y.move rfl rfl) (Wd.u rfl) rfl rfl ?_
                    refine LR.v (Y.addi rfl rfl rfl (by omega)) (Wd.u rfl) rfl rfl ?_
                    refine LR.v (Y.move rfl rfl) (Wd.u rfl) rfl rfl ?_
                    refine LR.v (Y.addi rfl rfl rfl (by omega)) (Wd.u rfl) rfl rfl ?_
                    refine LR.e (g := fun v => v) (Y.slice hd (at_ + 5) (at_ + 5 + n) rfl Try.runUnderlying22 Try.sizeOf5 rfl (.inr ⟨_, _, _, rfl, rfl, by first | rfl | omega⟩) (.inr ⟨_, _, _, rfl, rfl, by first | rfl | omega⟩) (by omega) (by omega)) (Wd.u rfl) rfl rfl (fun v115 rd115 => ?_)
                    have bf_rd115 := bf_hd
                    have hsl : (d.take (at_ + 5 + n)).drop (at_ + 5) = slc (d.drop (at_ + 1)) 4 n := by rw [slc, List.drop_drop, List.take_drop]
                    rw [hsl] at rd115
                    have hsn := slc_len (d.drop (at_ + 1)) 4 n (by omega)
                    refine LR.z (Z.apnd ow7 rd115 rfl inf22 rfl rfl (by omega) (by omega)) (Wd.u rfl) rfl rfl (fun v116 H116 r116 => ?_)
                    obtain ⟨k116, ow116, hk116, hs116⟩ := r116
                    replace hk116 : Nx ko H89.size k116 := hk116
                    replace hs116 := hs116.md
                    have df10 := DF.app (df1) (bf_hb.mono hm0.size) hk116
                    have df11 := DF.app (df2) (bf_hd.mono hm0.size) hk116
                    have df12 := DF.app (df2) (bf_rd115.mono hm0.size) hk116
                    have nx13 : Nx 0 H0.size k116 := Nx.tr (nx3) hk116 hm0.size
                    have nx14 : Nx 0 H21.size k116 := Nx.tr (nx4) hk116 hlm1.size
                    replace hb := hb.upL hs116 (DFL.cons df1 DFL.nil)
                    replace hd := hd.upL hs116 (DFL.cons df2 DFL.nil)
                    replace rd115 := rd115.upL hs116 (DFL.cons df2 DFL.nil)
                    replace hm0 := (Mo.trL (ks := []) (hm0.mdn []) hs116 (MIL.cons (MI.app MI.z (nx3) (Nat.le_refl _)) MIL.nil)).nil
                    replace hlm1 := (Mo.trL (ks := []) (hlm1.mdn []) hs116 (MIL.cons (MI.app MI.z (nx4) (Nat.le_refl _)) MIL.nil)).nil
                    have hz8 := hs116.size
                    have hle_ow116 := ow116.le
                    refine LR.v (Y.assign rfl rfl) (Wd.u rfl) rfl rfl ?_
                    refine LR.nil ?_
                    refine hK43 _ _ ?_
                    refine CW.region ?_
                    refine LR.v (Y.move rfl rfl) (Wd.u rfl) rfl rfl ?_
                    refine LR.v (Y.addi rfl rfl rfl (by omega)) (Wd.u rfl) rfl rfl ?_
                    refine LR.v (Y.move rfl rfl) (Wd.u rfl) rfl rfl ?_
                    refine LR.v (Y.addi rfl rfl rfl (by omega)) (Wd.u rfl) rfl rfl ?_
                    refine LR.v (Y.assign rfl rfl) (Wd.u rfl) rfl rfl ?_
                    refine LR.nil ?_
                    refine hK18 _ _ ?_
                    refine hK16 _ _ ?_
                    refine QN.sub (hN13 (at_ + 5 + n, v116, k116, out ++ slc (d.drop (at_ + 1)) 4 n) _ ?_ ?_) ⟨rfl, rfl, (iv (by omega)), rfl, (iv (by omega)), trivial⟩
                    · exact ⟨(by omega), ow116, (by rw [List.length_append]; omega), by rw [← hap, show at_ + 1 + (4 + n) = at_ + 5 + n by omega], nx14, hlm1⟩
                    · first | omega | (simp only; omega) | (simp; omega)
          ·
            refine CW.seq (fun K44 hK44 hE44 => ?_)
            refine CW.region ?_
            refine LR.v (Y.assign rfl rfl) (Wd.u rfl) rfl rfl ?_
            refine LR.v (Y.assign rfl rfl) (Wd.u rfl) rfl rfl ?_
            refine LR.nil ?_
            refine hK44 _ _ ?_
            refine CW.ret (hE18 .ret nofun (by simp) _ _ (hE16 .ret nofun (by simp) _ _ (hE13 .ret nofun _ _ (hE12 .ret nofun (by simp) _ _ (hE10 .ret nofun _ _ (hret .ret (.inr rfl) _ _ _ (res2 rfl rfl rfl) ?_))))))
            exact ⟨_, 0, [], _, rfl, Qr.nil _ _ _, Nx.refl _ _, by first | (rw [← hap, apf_c1 (by omega)]; done) | (rw [← hap, apf_c2 (by omega) (by rw [ha, hn2]; unfold bad1; omega)]; done) | (rw [← hap, apf_i1 (by omega)]; done) | (rw [← hap, apf_i2 (by omega) (by rw [hn]; omega)]; done) | (rw [← hap, apf_i3 (by omega) (by rw [hn]; omega) (by rw [hn]; omega)]; done) | (rw [← hap, apf_o (fun e => c30 (by rw [e]; rfl)) (fun e => c79 (by rw [e]; rfl))]; done) | (rw [← hap, if_neg (by omega)]; done), hm0⟩
      ·
        have hat2 : at_ = d.length := by omega
        rw [List.drop_of_length_le (by omega), apf_nil] at hap
        refine CW.exit (hE14 (.exit 0) nofun _ _ (hE13 (.exit 0) nofun _ _ (hX12 _ _ ?_)))
        refine hK10 _ _ ?_
        refine CW.seq (fun K45 hK45 hE45 => ?_)
        refine CW.seq (fun K46 hK46 hE46 => ?_)
        refine CW.region ?_
        refine LR.v (Y.move rfl rfl) (Wd.u rfl) rfl rfl ?_
        refine LR.v (Y.len ow7.rd rfl Try.runUnderlying22 rfl) (Wd.u rfl) rfl rfl ?_
        refine LR.v (Y.move rfl rfl) (Wd.u rfl) rfl rfl ?_
        refine LR.v (Y.neq rfl rfl rfl) (Wd.u rfl) rfl rfl ?_
        refine LR.nil ?_
        refine hK46 _ _ ?_
        refine CW.condp rfl (fun c124 => ?_) (fun c124 => ?_)
        ·
          refine CW.seq (fun K47 hK47 hE47 => ?_)
          refine CW.region ?_
          refine LR.v (Y.assign rfl rfl) (Wd.u rfl) rfl rfl ?_
          refine LR.v (Y.assign rfl rfl) (Wd.u rfl) rfl rfl ?_
          refine LR.nil ?_
          refine hK47 _ _ ?_
          refine CW.ret (hE45 .ret nofun _ _ (hret .ret (.inr rfl) _ _ _ (res2 rfl rfl rfl) ?_))
          exact ⟨_, 0, [], _, rfl, Qr.nil _ _ _, Nx.refl _ _, by first | (rw [← hap, apf_c1 (by omega)]; done) | (rw [← hap, apf_c2 (by omega) (by rw [ha, hn2]; unfold bad1; omega)]; done) | (rw [← hap, apf_i1 (by omega)]; done) | (rw [← hap, apf_i2 (by omega) (by rw [hn]; omega)]; done) | (rw [← hap, apf_i3 (by omega) (by rw [hn]; omega) (by rw [hn]; omega)]; done) | (rw [← hap, apf_o (fun e => c30 (by rw [e]; rfl)) (fun e => c79 (by rw [e]; rfl))]; done) | (rw [← hap, if_neg (by omega)]; done), hm0⟩
        ·
          refine CW.skip ?_
          refine hK45 _ _ ?_
          refine CW.seq (fun K48 hK48 hE48 => ?_)
          refine CW.region ?_
          refine LR.v (Y.move rfl rfl) (Wd.u rfl) rfl rfl ?_
          refine LR.v (Y.assign rfl rfl) (Wd.u rfl) rfl rfl ?_
          refine LR.v (Y.assign rfl rfl) (Wd.u rfl) rfl rfl ?_
          refine LR.nil ?_
          refine hK48 _ _ ?_
          refine CW.ret (hret .ret (.inr rfl) _ _ _ (res2 rfl rfl rfl) ?_)
          exact ⟨_, ko, out, 0, rfl, ow7.q, nx3, by rw [← hap, if_pos (by omega)], hm0⟩

end Go.Proofs.Ytjkjdpainenofaa.DelE
