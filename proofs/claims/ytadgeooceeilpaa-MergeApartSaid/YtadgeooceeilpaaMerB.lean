/-
  Which kind of chunk a gap is.
-/
import Derived.Test.YtadgeooceeilpaaMerA
namespace Go.Proofs.Ytadgeooceeilpaa.MerB
open Go.Proofs.Ytadgeooceeilpaa.E Go.RowKit Go.Proofs.Ytadgeooceeilpaa.MerA
set_option linter.unusedVariables false
set_option linter.unusedSimpArgs false
set_option linter.unusedSectionVars false

/-- the kind of a gap -/
def kB (x y z : Bool) : Int := if x && y then 0 else if z then 3 else if y then 1 else if x then 2 else 4
def kindL (b o t : List (List UInt8)) : Int := kB (decide (b = o)) (decide (b = t)) (decide (o = t))

theorem kind_ct (v1 v2 v3 : Value) (b o t : List (List UInt8)) (w0 : World) (H0 : Heap)
    (hb : RdT H0 fS 1 v1 b) (ho : RdT H0 fS 1 v2 o) (ht : RdT H0 fS 1 v3 t) :
    Ct Try.prog w0 52 #[v1, v2, v3] H0 (fun r H2 => r = .int .i64 (kindL b o t) ∧ Nw H0 H2) := by
  refine Ct.enter (args := [v1, v2, v3]) Try.func52 rfl rfl rfl ?_
  intro Q0 hret
  have hm0 : Nw H0 H0 := Mo.refl _ _
  replace hb := hb.bnd
  have bf_hb := Rd.bf hb
  replace ho := ho.bnd
  have bf_ho := Rd.bf ho
  replace ht := ht.bnd
  have bf_ht := Rd.bf ht
  refine CW.seq (fun K1 hK1 hE1 => ?_)
  refine CW.region ?_
  refine LR.v (Y.assign rfl rfl) (Wd.u rfl) rfl rfl ?_
  refine LR.nil ?_
  refine hK1 _ _ ?_
  refine CW.seq (fun K2 hK2 hE2 => ?_)
  refine CW.seq (fun K3 hK3 hE3 => ?_)
  refine CW.region ?_
  refine LR.v (Y.move rfl rfl) (Wd.u rfl) rfl rfl ?_
  refine LR.v (Y.move rfl rfl) (Wd.u rfl) rfl rfl ?_
  -- call slices.Equal[[]string,string]
  refine LR.call rfl Try.call62 rfl (Wd.u rfl) rfl rfl (sequal_ct _ _ b o w0 _ hb.any ho.any) (fun v11 H11 r11 => ?_)
  obtain ⟨rfl, hs11⟩ := r11
  replace hb := hb.nw hs11
  replace ho := ho.nw hs11
  replace ht := ht.nw hs11
  replace hm0 := hm0.tr hs11
  have hz1 := hs11.size
  refine LR.v (Y.move rfl rfl) (Wd.u rfl) rfl rfl ?_
  refine LR.v (Y.move rfl rfl) (Wd.u rfl) rfl rfl ?_
  -- call slices.Equal[[]string,string]
  refine LR.call rfl Try.call62 rfl (Wd.u rfl) rfl rfl (sequal_ct _ _ b t w0 _ hb.any ht.any) (fun v14 H14 r14 => ?_)
  obtain ⟨rfl, hs14⟩ := r14
  replace hb := hb.nw hs14
  replace ho := ho.nw hs14
  replace ht := ht.nw hs14
  replace hm0 := hm0.tr hs14
  have hz2 := hs14.size
  refine LR.v (Y.assign rfl rfl) (Wd.u rfl) rfl rfl ?_
  refine LR.v (Y.assign rfl rfl) (Wd.u rfl) rfl rfl ?_
  refine LR.nil ?_
  refine hK3 _ _ ?_
  refine CW.block (fun K4 hK4 hX4 hE4 => ?_)
  refine CW.seq (fun K5 hK5 hE5 => ?_)
  refine CW.region ?_
  refine LR.v (Y.move rfl rfl) (Wd.u rfl) rfl rfl ?_
  refine LR.v (Y.move rfl rfl) (Wd.u rfl) rfl rfl ?_
  refine LR.splitp (d := 17) rfl (fun g17 => ?_) (fun g17 => ?_)
  ·
    refine LR.v (Y.move rfl rfl) (Wd.g rfl rfl rfl) rfl rfl ?_
    refine LR.v (Y.pick_t rfl rfl rfl) (Wd.u rfl) rfl rfl ?_
    refine LR.v (Y.assign rfl rfl) (Wd.u rfl) rfl rfl ?_
    refine LR.nil ?_
    refine hK5 _ _ ?_
    refine CW.condp rfl (fun c15 => ?_) (fun c15 => ?_)
    ·
      refine CW.seq (fun K6 hK6 hE6 => ?_)
      refine CW.region ?_
      refine LR.v (Y.assign rfl rfl) (Wd.u rfl) rfl rfl ?_
      refine LR.nil ?_
      refine hK6 _ _ ?_
      refine CW.ret (hE4 .ret nofun (by simp) _ _ (hE2 .ret nofun _ _ (hret .ret (.inr rfl) _ _ _ (res1 rfl rfl) ?_)))
      exact ⟨by
          unfold kindL
          first | rw [decide_eq_true (show b = o by assumption)] | rw [decide_eq_false (show ¬ b = o by assumption)] | skip
          first | rw [decide_eq_true (show b = t by assumption)] | rw [decide_eq_false (show ¬ b = t by assumption)] | skip
          first | rw [decide_eq_true (show o = t by assumption)] | rw [decide_eq_false (show ¬ o = t by assumption)] | skip
          first | (simp [kB]; done) | contradiction, hm0⟩
    ·
      refine CW.seq (fun K7 hK7 hE7 => ?_)
      refine CW.region ?_
      refine LR.v (Y.move rfl rfl) (Wd.u rfl) rfl rfl ?_
      refine LR.v (Y.move rfl rfl) (Wd.u rfl) rfl rfl ?_
      -- call slices.Equal[[]string,string]
      refine LR.call rfl Try.call62 rfl (Wd.u rfl) rfl rfl (sequal_ct _ _ o t w0 _ ho.any ht.any) (fun v23 H23 r23 => ?_)
      obtain ⟨rfl, hs23⟩ := r23
      replace hb := hb.nw hs23
      replace ho := ho.nw hs23
      replace ht := ht.nw hs23
      replace hm0 := hm0.tr hs23
      have hz3 := hs23.size
      refine LR.v (Y.assign rfl rfl) (Wd.u rfl) rfl rfl ?_
      refine LR.nil ?_
      refine hK7 _ _ ?_
      refine CW.condp rfl (fun c20 => ?_) (fun c20 => ?_)
      ·
        refine CW.seq (fun K8 hK8 hE8 => ?_)
        refine CW.region ?_
        refine LR.v (Y.assign rfl rfl) (Wd.u rfl) rfl rfl ?_
        refine LR.nil ?_
        refine hK8 _ _ ?_
        refine CW.ret (hE4 .ret nofun (by simp) _ _ (hE2 .ret nofun _ _ (hret .ret (.inr rfl) _ _ _ (res1 rfl rfl) ?_)))
        exact ⟨by
            unfold kindL
            first | rw [decide_eq_true (show b = o by assumption)] | rw [decide_eq_false (show ¬ b = o by assumption)] | skip
            first | rw [decide_eq_true (show b = t by assumption)] | rw [decide_eq_false (show ¬ b = t by assumption)] | skip
            first | rw [decide_eq_true (show o = t by assumption)] | rw [decide_eq_false (show ¬ o = t by assumption)] | skip
            first | (simp [kB]; done) | contradiction, hm0⟩
      ·
        refine CW.seq (fun K9 hK9 hE9 => ?_)
        refine CW.region ?_
        refine LR.v (Y.move rfl rfl) (Wd.u rfl) rfl rfl ?_
        refine LR.v (Y.assign rfl rfl) (Wd.u rfl) rfl rfl ?_
        refine LR.nil ?_
        refine hK9 _ _ ?_
        refine CW.condp rfl (fun c24 => ?_) (fun c24 => ?_)
        ·
          refine CW.seq (fun K10 hK10 hE10 => ?_)
          refine CW.region ?_
          refine LR.v (Y.assign rfl rfl) (Wd.u rfl) rfl rfl ?_
          refine LR.nil ?_
          refine hK10 _ _ ?_
          refine CW.ret (hE4 .ret nofun (by simp) _ _ (hE2 .ret nofun _ _ (hret .ret (.inr rfl) _ _ _ (res1 rfl rfl) ?_)))
          exact ⟨by
              unfold kindL
              first | rw [decide_eq_true (show b = o by assumption)] | rw [decide_eq_false (show ¬ b = o by assumption)] | skip
              first | rw [decide_eq_true (show b = t by assumption)] | rw [decide_eq_false (show ¬ b = t by assumption)] | skip
              first | rw [decide_eq_true (show o = t by assumption)] | rw [decide_eq_false (show ¬ o = t by assumption)] | skip
              first | (simp [kB]; done) | contradiction, hm0⟩
        ·
          refine CW.seq (fun K11 hK11 hE11 => ?_)
          refine CW.region ?_
          refine LR.v (Y.move rfl rfl) (Wd.u rfl) rfl rfl ?_
          refine LR.v (Y.assign rfl rfl) (Wd.u rfl) rfl rfl ?_
          refine LR.nil ?_
          refine hK11 _ _ ?_
          refine CW.condp rfl (fun c26 => ?_) (fun c26 => ?_)
          ·
            refine CW.seq (fun K12 hK12 hE12 => ?_)
            refine CW.region ?_
            refine LR.v (Y.assign rfl rfl) (Wd.u rfl) rfl rfl ?_
            refine LR.nil ?_
            refine hK12 _ _ ?_
            refine CW.ret (hE4 .ret nofun (by simp) _ _ (hE2 .ret nofun _ _ (hret .ret (.inr rfl) _ _ _ (res1 rfl rfl) ?_)))
            exact ⟨by
                unfold kindL
                first | rw [decide_eq_true (show b = o by assumption)] | rw [decide_eq_false (show ¬ b = o by assumption)] | skip
                first | rw [decide_eq_true (show b = t by assumption)] | rw [decide_eq_false (show ¬ b = t by assumption)] | skip
                first | rw [decide_eq_true (show o = t by assumption)] | rw [decide_eq_false (show ¬ o = t by assumption)] | skip
                first | (simp [kB]; done) | contradiction, hm0⟩
          ·
            refine CW.skip ?_
            refine hK4 _ _ ?_
            refine hK2 _ _ ?_
            refine CW.seq (fun K13 hK13 hE13 => ?_)
            refine CW.region ?_
            refine LR.v (Y.assign rfl rfl) (Wd.u rfl) rfl rfl ?_
            refine LR.nil ?_
            refine hK13 _ _ ?_
            refine CW.ret (hret .ret (.inr rfl) _ _ _ (res1 rfl rfl) ?_)
            exact ⟨by
                unfold kindL
                first | rw [decide_eq_true (show b = o by assumption)] | rw [decide_eq_false (show ¬ b = o by assumption)] | skip
                first | rw [decide_eq_true (show b = t by assumption)] | rw [decide_eq_false (show ¬ b = t by assumption)] | skip
                first | rw [decide_eq_true (show o = t by assumption)] | rw [decide_eq_false (show ¬ o = t by assumption)] | skip
                first | (simp [kB]; done) | contradiction, hm0⟩
  ·
    refine LR.gs rfl rfl rfl rfl rfl rfl ?_
    refine LR.v (Y.pick_f rfl rfl rfl) (Wd.u rfl) rfl rfl ?_
    refine LR.v (Y.assign rfl rfl) (Wd.u rfl) rfl rfl ?_
    refine LR.nil ?_
    refine hK5 _ _ ?_
    refine CW.cond_f rfl ?_
    refine CW.seq (fun K14 hK14 hE14 => ?_)
    refine CW.region ?_
    refine LR.v (Y.move rfl rfl) (Wd.u rfl) rfl rfl ?_
    refine LR.v (Y.move rfl rfl) (Wd.u rfl) rfl rfl ?_
    -- call slices.Equal[[]string,string]
    refine LR.call rfl Try.call62 rfl (Wd.u rfl) rfl rfl (sequal_ct _ _ o t w0 _ ho.any ht.any) (fun v23 H23 r23 => ?_)
    obtain ⟨rfl, hs23⟩ := r23
    replace hb := hb.nw hs23
    replace ho := ho.nw hs23
    replace ht := ht.nw hs23
    replace hm0 := hm0.tr hs23
    have hz4 := hs23.size
    refine LR.v (Y.assign rfl rfl) (Wd.u rfl) rfl rfl ?_
    refine LR.nil ?_
    refine hK14 _ _ ?_
    refine CW.condp rfl (fun c20 => ?_) (fun c20 => ?_)
    ·
      refine CW.seq (fun K15 hK15 hE15 => ?_)
      refine CW.region ?_
      refine LR.v (Y.assign rfl rfl) (Wd.u rfl) rfl rfl ?_
      refine LR.nil ?_
      refine hK15 _ _ ?_
      refine CW.ret (hE4 .ret nofun (by simp) _ _ (hE2 .ret nofun _ _ (hret .ret (.inr rfl) _ _ _ (res1 rfl rfl) ?_)))
      exact ⟨by
          unfold kindL
          first | rw [decide_eq_true (show b = o by assumption)] | rw [decide_eq_false (show ¬ b = o by assumption)] | skip
          first | rw [decide_eq_true (show b = t by assumption)] | rw [decide_eq_false (show ¬ b = t by assumption)] | skip
          first | rw [decide_eq_true (show o = t by assumption)] | rw [decide_eq_false (show ¬ o = t by assumption)] | skip
          first | (simp [kB]; done) | contradiction, hm0⟩
    ·
      refine CW.seq (fun K16 hK16 hE16 => ?_)
      refine CW.region ?_
      refine LR.v (Y.move rfl rfl) (Wd.u rfl) rfl rfl ?_
      refine LR.v (Y.assign rfl rfl) (Wd.u rfl) rfl rfl ?_
      refine LR.nil ?_
      refine hK16 _ _ ?_
      refine CW.condp rfl (fun c24 => ?_) (fun c24 => ?_)
      ·
        refine CW.seq (fun K17 hK17 hE17 => ?_)
        refine CW.region ?_
        refine LR.v (Y.assign rfl rfl) (Wd.u rfl) rfl rfl ?_
        refine LR.nil ?_
        refine hK17 _ _ ?_
        refine CW.ret (hE4 .ret nofun (by simp) _ _ (hE2 .ret nofun _ _ (hret .ret (.inr rfl) _ _ _ (res1 rfl rfl) ?_)))
        exact ⟨by
            unfold kindL
            first | rw [decide_eq_true (show b = o by assumption)] | rw [decide_eq_false (show ¬ b = o by assumption)] | skip
            first | rw [decide_eq_true (show b = t by assumption)] | rw [decide_eq_false (show ¬ b = t by assumption)] | skip
            first | rw [decide_eq_true (show o = t by assumption)] | rw [decide_eq_false (show ¬ o = t by assumption)] | skip
            first | (simp [kB]; done) | contradiction, hm0⟩
      ·
        refine CW.seq (fun K18 hK18 hE18 => ?_)
        refine CW.region ?_
        refine LR.v (Y.move rfl rfl) (Wd.u rfl) rfl rfl ?_
        refine LR.v (Y.assign rfl rfl) (Wd.u rfl) rfl rfl ?_
        refine LR.nil ?_
        refine hK18 _ _ ?_
        refine CW.condp rfl (fun c26 => ?_) (fun c26 => ?_)
        ·
          refine CW.seq (fun K19 hK19 hE19 => ?_)
          refine CW.region ?_
          refine LR.v (Y.assign rfl rfl) (Wd.u rfl) rfl rfl ?_
          refine LR.nil ?_
          refine hK19 _ _ ?_
          refine CW.ret (hE4 .ret nofun (by simp) _ _ (hE2 .ret nofun _ _ (hret .ret (.inr rfl) _ _ _ (res1 rfl rfl) ?_)))
          exact ⟨by
              unfold kindL
              first | rw [decide_eq_true (show b = o by assumption)] | rw [decide_eq_false (show ¬ b = o by assumption)] | skip
              first | rw [decide_eq_true (show b = t by assumption)] | rw [decide_eq_false (show ¬ b = t by assumption)] | skip
              first | rw [decide_eq_true (show o = t by assumption)] | rw [decide_eq_false (show ¬ o = t by assumption)] | skip
              first | (simp [kB]; done) | contradiction, hm0⟩
        ·
          refine CW.skip ?_
          refine hK4 _ _ ?_
          refine hK2 _ _ ?_
          refine CW.seq (fun K20 hK20 hE20 => ?_)
          refine CW.region ?_
          refine LR.v (Y.assign rfl rfl) (Wd.u rfl) rfl rfl ?_
          refine LR.nil ?_
          refine hK20 _ _ ?_
          refine CW.ret (hret .ret (.inr rfl) _ _ _ (res1 rfl rfl) ?_)
          exact ⟨by
              unfold kindL
              first | rw [decide_eq_true (show b = o by assumption)] | rw [decide_eq_false (show ¬ b = o by assumption)] | skip
              first | rw [decide_eq_true (show b = t by assumption)] | rw [decide_eq_false (show ¬ b = t by assumption)] | skip
              first | rw [decide_eq_true (show o = t by assumption)] | rw [decide_eq_false (show ¬ o = t by assumption)] | skip
              first | (simp [kB]; done) | contradiction, hm0⟩

end Go.Proofs.Ytadgeooceeilpaa.MerB
