/-
  The contracts of LinesApplies and LinesBack.
-/
import Derived.Test.YtkofoccjnoenlaaLinJ
namespace Go.Proofs.Ytkofoccjnoenlaa.LinK
open Go.Proofs.Ytkofoccjnoenlaa.E Go.RowKit Go.Proofs.Ytkofoccjnoenlaa.LinM Go.Proofs.Ytkofoccjnoenlaa.LinA Go.Proofs.Ytkofoccjnoenlaa.LinB Go.Proofs.Ytkofoccjnoenlaa.LinC Go.Proofs.Ytkofoccjnoenlaa.LinD Go.Proofs.Ytkofoccjnoenlaa.LinE Go.Proofs.Ytkofoccjnoenlaa.LinF Go.Proofs.Ytkofoccjnoenlaa.LinG Go.Proofs.Ytkofoccjnoenlaa.LinI Go.Proofs.Ytkofoccjnoenlaa.LinJ
set_option linter.unusedVariables false
set_option linter.unusedSimpArgs false
set_option linter.unusedSectionVars false
theorem inf22 : Inf Try.prog 22 9 1 16 := ⟨Try.underlying22, _, _, rfl, rfl, rfl, rfl, rfl⟩
theorem inf25 : Inf Try.prog 25 36 2 16 := ⟨Try.underlying25, _, _, rfl, rfl, rfl, rfl, rfl⟩
theorem linesApplies_ct (va ve vd : Value) (a : List (List UInt8)) (es : List (Int × Int)) (add : List (List UInt8)) (w0 : World) (H0 : Heap)
    (ha : RdT H0 fS 1 va a) (he : RdT H0 fE 2 ve es) (hd : RdT H0 fS 1 vd add) (hla : (∀ s ∈ a, s.length ≤ 1048576) ∧ a.length ≤ 1048576) (hld : (∀ s ∈ add, s.length ≤ 1048576) ∧ add.length ≤ 1048576) :
    Ct Try.prog w0 8 #[va, ve, vd] H0 (fun r H2 => r = .bool true ∧ Nw H0 H2) := by
  refine Ct.enter (args := [va, ve, vd]) Try.func8 rfl rfl rfl ?_
  intro Q0 hret
  replace ha := ha.lt
  replace he := he.lt
  replace hd := hd.lt
  refine CW.seq (fun K1 hK1 hE1 => ?_)
  refine CW.region ?_
  refine LR.v (Y.assign rfl rfl) (Wd.u rfl) rfl rfl ?_
  refine LR.nil ?_
  refine hK1 _ _ ?_
  refine CW.seq (fun K2 hK2 hE2 => ?_)
  refine CW.seq (fun K3 hK3 hE3 => ?_)
  refine CW.region ?_
  -- call selvage/selvagelaw12.known
  refine LR.call rfl Try.call10 rfl (Wd.u rfl) rfl rfl (known_ct w0 H0) (fun v11 H11 r11 => ?_)
  obtain ⟨rfl, hs⟩ := r11
  replace ha := ha.nw hs
  replace he := he.nw hs
  replace hd := hd.nw hs
  have hz11 := hs.size
  refine LR.v (Y.not rfl rfl) (Wd.u rfl) rfl rfl ?_
  refine LR.nil ?_
  refine hK3 _ _ ?_
  refine CW.cond_f rfl ?_
  refine CW.skip ?_
  refine hK2 _ _ ?_
  refine CW.seq (fun K4 hK4 hE4 => ?_)
  refine CW.seq (fun K5 hK5 hE5 => ?_)
  refine CW.region ?_
  refine LR.v (Y.move rfl rfl) (Wd.u rfl) rfl rfl ?_
  -- call selvage/selvagelaw12.Few
  refine LR.call rfl Try.call11 rfl (Wd.u rfl) rfl rfl (few_ct _ _ w0 H11 ha.any hla.1 hla.2) (fun v14 H14 r14 => ?_)
  obtain ⟨rfl, rfl⟩ := r14
  refine LR.v (Y.notp rfl rfl) (Wd.u rfl) rfl rfl ?_
  refine LR.v (Y.move rfl rfl) (Wd.u rfl) rfl rfl ?_
  refine LR.splitp (d := 16) rfl (fun g16 => ?_) (fun g16 => ?_)
  ·
    refine LR.gs rfl rfl rfl rfl rfl rfl ?_
    refine LR.gs rfl rfl rfl rfl rfl rfl ?_
    refine LR.gs rfl rfl rfl rfl rfl rfl ?_
    refine LR.v (Y.pick_t rfl rfl rfl) (Wd.u rfl) rfl rfl ?_
    refine LR.v (Y.move rfl rfl) (Wd.u rfl) rfl rfl ?_
    refine LR.gs rfl rfl rfl rfl rfl rfl ?_
    refine LR.gs rfl rfl rfl rfl rfl rfl ?_
    refine LR.gs rfl rfl rfl rfl rfl rfl ?_
    refine LR.v (Y.pick_t rfl rfl rfl) (Wd.u rfl) rfl rfl ?_
    refine LR.nil ?_
    refine hK5 _ _ ?_
    refine CW.cond_t rfl ?_
    refine CW.seq (fun K6 hK6 hE6 => ?_)
    refine CW.region ?_
    refine LR.v (Y.assign rfl rfl) (Wd.u rfl) rfl rfl ?_
    refine LR.nil ?_
    refine hK6 _ _ ?_
    refine CW.ret (hE4 .ret nofun _ _ (hret .ret (.inr rfl) _ _ _ (res1 rfl rfl) ?_))
    exact ⟨rfl, hs⟩
  ·
    refine LR.v (Y.move rfl rfl) (Wd.g rfl rfl rfl) rfl rfl ?_
    -- call selvage/selvagelaw12.Few
    refine LR.call rfl Try.call11 rfl (Wd.g rfl rfl rfl) rfl rfl (few_ct _ _ w0 H14 hd.any hld.1 hld.2) (fun v18 H18 r18 => ?_)
    obtain ⟨rfl, rfl⟩ := r18
    refine LR.v (Y.notp rfl rfl) (Wd.g rfl rfl rfl) rfl rfl ?_
    refine LR.v (Y.pick_f rfl rfl rfl) (Wd.u rfl) rfl rfl ?_
    refine LR.v (Y.move rfl rfl) (Wd.u rfl) rfl rfl ?_
    refine LR.splitp (d := 21) rfl (fun g21 => ?_) (fun g21 => ?_)
    ·
      refine LR.gs rfl rfl rfl rfl rfl rfl ?_
      refine LR.gs rfl rfl rfl rfl rfl rfl ?_
      refine LR.gs rfl rfl rfl rfl rfl rfl ?_
      refine LR.v (Y.pick_t rfl rfl rfl) (Wd.u rfl) rfl rfl ?_
      refine LR.nil ?_
      refine hK5 _ _ ?_
      refine CW.cond_t rfl ?_
      refine CW.seq (fun K7 hK7 hE7 => ?_)
      refine CW.region ?_
      refine LR.v (Y.assign rfl rfl) (Wd.u rfl) rfl rfl ?_
      refine LR.nil ?_
      refine hK7 _ _ ?_
      refine CW.ret (hE4 .ret nofun _ _ (hret .ret (.inr rfl) _ _ _ (res1 rfl rfl) ?_))
      exact ⟨rfl, hs⟩
    ·
      refine LR.v (Y.move rfl rfl) (Wd.g rfl rfl rfl) rfl rfl ?_
      refine LR.v (Y.len he rfl Try.runUnderlying25 rfl) (Wd.g rfl rfl rfl) rfl rfl ?_
      refine LR.v (Y.gtr rfl rfl rfl) (Wd.g rfl rfl rfl) rfl rfl ?_
      refine LR.v (Y.pick_f rfl rfl rfl) (Wd.u rfl) rfl rfl ?_
      refine LR.nil ?_
      refine hK5 _ _ ?_
      refine CW.condp rfl (fun c25 => ?_) (fun c25 => ?_)
      ·
        refine CW.seq (fun K8 hK8 hE8 => ?_)
        refine CW.region ?_
        refine LR.v (Y.assign rfl rfl) (Wd.u rfl) rfl rfl ?_
        refine LR.nil ?_
        refine hK8 _ _ ?_
        refine CW.ret (hE4 .ret nofun _ _ (hret .ret (.inr rfl) _ _ _ (res1 rfl rfl) ?_))
        exact ⟨rfl, hs⟩
      ·
        have hfa := (Decidable.not_not.1 g16).len
        have hfd := (Decidable.not_not.1 g21).len
        have hel : es.length ≤ 200 := by omega
        refine CW.skip ?_
        refine hK4 _ _ ?_
        refine CW.seq (fun K9 hK9 hE9 => ?_)
        refine CW.region ?_
        refine LR.z (Z.lit _ (([] : List (List UInt8))) rfl inf22 rfl rfl rfl (by decide) (by decide) fS_len fS_one rfl) (Wd.u rfl) rfl rfl (fun v27 H27 r27 => ?_)
        obtain ⟨ho, hs27, ob27, hH27⟩ := r27
        replace ha := ha.nw hs27
        replace he := he.nw hs27
        replace hd := hd.nw hs27
        replace hs := hs.tr hs27
        have hz27 : H27.size = H18.size + 1 := by rw [hH27]; simp
        refine LR.v (Y.move rfl rfl) (Wd.u rfl) rfl rfl ?_
        refine LR.z (Z.append ho ha rfl inf22 rfl rfl (by simp; omega) (by simp; omega)) (Wd.u rfl) rfl rfl (fun v29 H29 r29 => ?_)
        obtain ⟨ho, hs29⟩ := r29
        replace ha := ha.up hs29 (fun b _ h1 h2 => by omega)
        replace he := he.up hs29 (fun b _ h1 h2 => by omega)
        replace hd := hd.up hs29 (fun b _ h1 h2 => by omega)
        replace hs := hs.trans hs29 (fun _ _ e => e) (fun b hb e => (by omega : False))
        have hz29 := hs29.size
        replace ho := ho.lt
        refine LR.z (Z.lit _ (([] : List (Int × Int))) rfl inf25 rfl rfl rfl (by decide) (by decide) fE_len fE_one rfl) (Wd.u rfl) rfl rfl (fun v30 H30 r30 => ?_)
        obtain ⟨ho2, hs30, ob30, hH30⟩ := r30
        replace ha := ha.nw hs30
        replace he := he.nw hs30
        replace hd := hd.nw hs30
        replace hs := hs.tr hs30
        replace ho := ho.nw hs30
        have hz30 : H30.size = H29.size + 1 := by rw [hH30]; simp
        refine LR.v (Y.move rfl rfl) (Wd.u rfl) rfl rfl ?_
        refine LR.z (Z.append ho2 he rfl inf25 rfl rfl (by simp; omega) (by simp; omega)) (Wd.u rfl) rfl rfl (fun v32 H32 r32 => ?_)
        obtain ⟨ho2, hs32⟩ := r32
        replace ha := ha.up hs32 (fun b _ h1 h2 => by omega)
        replace he := he.up hs32 (fun b _ h1 h2 => by omega)
        replace hd := hd.up hs32 (fun b _ h1 h2 => by omega)
        replace ho := ho.up hs32 (fun b _ h1 h2 => by omega)
        replace hs := hs.trans hs32 (fun _ _ e => e) (fun b hb e => (by omega : False))
        have hz32 := hs32.size
        replace ho2 := ho2.rd
        simp only [List.nil_append] at ho ho2
        refine LR.v (Y.move rfl rfl) (Wd.u rfl) rfl rfl ?_
        -- call selvage/lines.Apply
        refine LR.call rfl Try.call23 rfl (Wd.u rfl) rfl rfl (apply_ct _ _ _ a es add w0 H32 ho.any ho2.any hd.any (by omega)) (fun v34 H34 r34 => ?_)
        obtain ⟨vx, rfl, hx, hs34⟩ := r34
        replace ha := ha.nw hs34
        replace he := he.nw hs34
        replace hd := hd.nw hs34
        replace hs := hs.tr hs34
        refine LR.v (Y.move rfl rfl) (Wd.u rfl) rfl rfl ?_
        refine LR.v (Y.extract rfl rfl rfl) (Wd.u rfl) rfl rfl ?_
        refine LR.v (Y.extract rfl rfl rfl) (Wd.u rfl) rfl rfl ?_
        refine LR.v (Y.assign rfl rfl) (Wd.u rfl) rfl rfl ?_
        refine LR.v (Y.assign rfl rfl) (Wd.u rfl) rfl rfl ?_
        refine LR.nil ?_
        refine hK9 _ _ ?_
        refine CW.seq (fun K10 hK10 hE10 => ?_)
        refine CW.region ?_
        refine LR.v (Y.move rfl rfl) (Wd.u rfl) rfl rfl ?_
        refine LR.v (Y.move rfl rfl) (Wd.u rfl) rfl rfl ?_
        refine LR.v (Y.move rfl rfl) (Wd.u rfl) rfl rfl ?_
        -- call selvage/selvageref12.Apply
        refine LR.call rfl Try.call24 rfl (Wd.u rfl) rfl rfl (rapply_ct _ _ _ a es add w0 H34 ha.any he.any hd.any (by omega)) (fun v41 H41 r41 => ?_)
        obtain ⟨vy, rfl, hy, hs41⟩ := r41
        replace hx := hx.nw hs41
        replace hs := hs.tr hs41
        refine LR.v (Y.move rfl rfl) (Wd.u rfl) rfl rfl ?_
        refine LR.v (Y.extract rfl rfl rfl) (Wd.u rfl) rfl rfl ?_
        refine LR.v (Y.extract rfl rfl rfl) (Wd.u rfl) rfl rfl ?_
        refine LR.v (Y.assign rfl rfl) (Wd.u rfl) rfl rfl ?_
        refine LR.v (Y.assign rfl rfl) (Wd.u rfl) rfl rfl ?_
        refine LR.nil ?_
        refine hK10 _ _ ?_
        refine CW.seq (fun K11 hK11 hE11 => ?_)
        refine CW.region ?_
        refine LR.v (Y.move rfl rfl) (Wd.u rfl) rfl rfl ?_
        refine LR.v (Y.move rfl rfl) (Wd.u rfl) rfl rfl ?_
        -- call selvage/selvageref12.Same
        refine LR.call rfl Try.call15 rfl (Wd.u rfl) rfl rfl (same_ct _ _ _ _ w0 H41 hx hy) (fun v46 H46 r46 => ?_)
        obtain ⟨hv46, rfl⟩ := r46
        rw [decide_eq_true rfl] at hv46
        subst hv46
        refine LR.v (Y.move rfl rfl) (Wd.u rfl) rfl rfl ?_
        refine LR.v (Y.move rfl rfl) (Wd.g rfl rfl rfl) rfl rfl ?_
        refine LR.v (Y.move rfl rfl) (Wd.g rfl rfl rfl) rfl rfl ?_
        refine LR.v ((Y.eql rfl rfl rfl).isT (rfl)) (Wd.g rfl rfl rfl) rfl rfl ?_
        refine LR.v (Y.pick_t rfl rfl rfl) (Wd.u rfl) rfl rfl ?_
        refine LR.v (Y.assign rfl rfl) (Wd.u rfl) rfl rfl ?_
        refine LR.nil ?_
        refine hK11 _ _ ?_
        refine CW.ret (hret .ret (.inr rfl) _ _ _ (res1 rfl rfl) ?_)
        exact ⟨rfl, hs⟩

theorem linesBack_ct (va vb : Value) (a b : List (List UInt8)) (w0 : World) (H0 : Heap)
    (ha : RdT H0 fS 1 va a) (hb : RdT H0 fS 1 vb b) (hla : (∀ s ∈ a, s.length ≤ 1048576) ∧ a.length ≤ 1048576) (hlb : (∀ s ∈ b, s.length ≤ 1048576) ∧ b.length ≤ 1048576) :
    Ct Try.prog w0 9 #[va, vb] H0 (fun r H2 => r = .bool true ∧ Nw H0 H2) := by
  refine Ct.enter (args := [va, vb]) Try.func9 rfl rfl rfl ?_
  intro Q0 hret
  refine CW.seq (fun K1 hK1 hE1 => ?_)
  refine CW.region ?_
  refine LR.v (Y.assign rfl rfl) (Wd.u rfl) rfl rfl ?_
  refine LR.nil ?_
  refine hK1 _ _ ?_
  refine CW.seq (fun K2 hK2 hE2 => ?_)
  refine CW.seq (fun K3 hK3 hE3 => ?_)
  refine CW.region ?_
  -- call selvage/selvagelaw12.known
  refine LR.call rfl Try.call10 rfl (Wd.u rfl) rfl rfl (known_ct w0 H0) (fun v11 H11 r11 => ?_)
  obtain ⟨rfl, hs⟩ := r11
  replace ha := ha.nw hs
  replace hb := hb.nw hs
  refine LR.v (Y.not rfl rfl) (Wd.u rfl) rfl rfl ?_
  refine LR.nil ?_
  refine hK3 _ _ ?_
  refine CW.cond_f rfl ?_
  refine CW.skip ?_
  refine hK2 _ _ ?_
  refine CW.seq (fun K4 hK4 hE4 => ?_)
  refine CW.seq (fun K5 hK5 hE5 => ?_)
  refine CW.region ?_
  refine LR.v (Y.move rfl rfl) (Wd.u rfl) rfl rfl ?_
  -- call selvage/selvagelaw12.Few
  refine LR.call rfl Try.call11 rfl (Wd.u rfl) rfl rfl (few_ct _ _ w0 H11 ha hla.1 hla.2) (fun v14 H14 r14 => ?_)
  obtain ⟨rfl, rfl⟩ := r14
  refine LR.v (Y.notp rfl rfl) (Wd.u rfl) rfl rfl ?_
  refine LR.v (Y.move rfl rfl) (Wd.u rfl) rfl rfl ?_
  refine LR.splitp (d := 16) rfl (fun g16 => ?_) (fun g16 => ?_)
  ·
    refine LR.gs rfl rfl rfl rfl rfl rfl ?_
    refine LR.gs rfl rfl rfl rfl rfl rfl ?_
    refine LR.gs rfl rfl rfl rfl rfl rfl ?_
    refine LR.v (Y.pick_t rfl rfl rfl) (Wd.u rfl) rfl rfl ?_
    refine LR.nil ?_
    refine hK5 _ _ ?_
    refine CW.cond_t rfl ?_
    refine CW.seq (fun K6 hK6 hE6 => ?_)
    refine CW.region ?_
    refine LR.v (Y.assign rfl rfl) (Wd.u rfl) rfl rfl ?_
    refine LR.nil ?_
    refine hK6 _ _ ?_
    refine CW.ret (hE4 .ret nofun _ _ (hret .ret (.inr rfl) _ _ _ (res1 rfl rfl) ?_))
    exact ⟨rfl, hs⟩
  ·
    refine LR.v (Y.move rfl rfl) (Wd.g rfl rfl rfl) rfl rfl ?_
    -- call selvage/selvagelaw12.Few
    refine LR.call rfl Try.call11 rfl (Wd.g rfl rfl rfl) rfl rfl (few_ct _ _ w0 H14 hb hlb.1 hlb.2) (fun v18 H18 r18 => ?_)
    obtain ⟨rfl, rfl⟩ := r18
    refine LR.v (Y.notp rfl rfl) (Wd.g rfl rfl rfl) rfl rfl ?_
    refine LR.v (Y.pick_f rfl rfl rfl) (Wd.u rfl) rfl rfl ?_
    refine LR.nil ?_
    refine hK5 _ _ ?_
    refine CW.condp rfl (fun c20 => ?_) (fun c20 => ?_)
    ·
      refine CW.seq (fun K7 hK7 hE7 => ?_)
      refine CW.region ?_
      refine LR.v (Y.assign rfl rfl) (Wd.u rfl) rfl rfl ?_
      refine LR.nil ?_
      refine hK7 _ _ ?_
      refine CW.ret (hE4 .ret nofun _ _ (hret .ret (.inr rfl) _ _ _ (res1 rfl rfl) ?_))
      exact ⟨rfl, hs⟩
    ·
      have hfa := (Decidable.not_not.1 g16).len
      have hfb := (Decidable.not_not.1 c20).len
      have hWl := W_len a b
      have hWl2 := W_len b a
      have hp := runs_pos (W a b)
      have hrt : tot (script a b) = (W a b).length := runs_tot (W a b)
      have hrt2 : tot (script b a) = (W b a).length := runs_tot (W b a)
      have hp2 := runs_pos (W b a)
      have hpe : ∀ e ∈ script a b, 1 ≤ e.2 ∧ (e.1 = 0 ∨ e.1 = 1 ∨ e.1 = 2) := fun e he => ⟨hp e he, script_ops a b e he⟩
      have hadl := addd_len (script a b) b
      have happ := app_back (script a b) a b [] (-1) (flat_runs _) hpe (alt_runs (-1) (W a b) (fun o ho => by have := (W_mem _ a b (Nat.le_refl _)).2 o ho; omega))
      rw [List.nil_append] at happ
      refine CW.skip ?_
      refine hK4 _ _ ?_
      refine CW.seq (fun K8 hK8 hE8 => ?_)
      refine CW.region ?_
      refine LR.v (Y.move rfl rfl) (Wd.u rfl) rfl rfl ?_
      refine LR.v (Y.move rfl rfl) (Wd.u rfl) rfl rfl ?_
      -- call selvage/lines.Diff
      refine LR.call rfl Try.call12 rfl (Wd.u rfl) rfl rfl (diff_ct _ _ a b w0 H18 ha hb) (fun v24 H24 r24 => ?_)
      obtain ⟨ve, rfl, he, hs24⟩ := r24
      rw [if_neg (by omega)] at he ⊢
      replace ha := ha.nw hs24
      replace hb := hb.nw hs24
      replace he := he.rd.any
      replace hs := hs.tr hs24
      refine LR.v (Y.move rfl rfl) (Wd.u rfl) rfl rfl ?_
      refine LR.v (Y.extract rfl rfl rfl) (Wd.u rfl) rfl rfl ?_
      refine LR.v (Y.extract rfl rfl rfl) (Wd.u rfl) rfl rfl ?_
      refine LR.v (Y.assign rfl rfl) (Wd.u rfl) rfl rfl ?_
      refine LR.v (Y.assign rfl rfl) (Wd.u rfl) rfl rfl ?_
      refine LR.nil ?_
      refine hK8 _ _ ?_
      refine CW.seq (fun K9 hK9 hE9 => ?_)
      refine CW.region ?_
      refine LR.v (Y.move rfl rfl) (Wd.u rfl) rfl rfl ?_
      refine LR.v (Y.move rfl rfl) (Wd.u rfl) rfl rfl ?_
      refine LR.v (Y.move rfl rfl) (Wd.u rfl) rfl rfl ?_
      refine LR.v (Y.move rfl rfl) (Wd.u rfl) rfl rfl ?_
      -- call selvage/selvageref12.Added
      refine LR.call rfl Try.call25 rfl (Wd.u rfl) rfl rfl (added_ct _ _ a _ b w0 H24 he hb (flat_runs _) hpe (by omega)) (fun v32 H32 r32 => ?_)
      obtain ⟨hd, hs32⟩ := r32
      replace ha := ha.nw hs32
      replace hb := hb.nw hs32
      replace he := he.nw hs32
      replace hs := hs.tr hs32
      -- call selvage/lines.Apply
      refine LR.call rfl Try.call23 rfl (Wd.u rfl) rfl rfl (apply_ct _ _ _ a _ _ w0 H32 ha he hd (by omega)) (fun v33 H33 r33 => ?_)
      obtain ⟨vc, rfl, hc, hs33⟩ := r33
      rw [happ] at hc ⊢
      replace ha := ha.nw hs33
      replace hb := hb.nw hs33
      replace he := he.nw hs33
      replace hs := hs.tr hs33
      refine LR.v (Y.move rfl rfl) (Wd.u rfl) rfl rfl ?_
      refine LR.v (Y.extract rfl rfl rfl) (Wd.u rfl) rfl rfl ?_
      refine LR.v (Y.extract rfl rfl rfl) (Wd.u rfl) rfl rfl ?_
      refine LR.v (Y.assign rfl rfl) (Wd.u rfl) rfl rfl ?_
      refine LR.v (Y.assign rfl rfl) (Wd.u rfl) rfl rfl ?_
      refine LR.nil ?_
      refine hK9 _ _ ?_
      refine CW.seq (fun K10 hK10 hE10 => ?_)
      refine CW.region ?_
      refine LR.v (Y.move rfl rfl) (Wd.u rfl) rfl rfl ?_
      refine LR.v (Y.move rfl rfl) (Wd.u rfl) rfl rfl ?_
      -- call selvage/lines.Diff
      refine LR.call rfl Try.call12 rfl (Wd.u rfl) rfl rfl (diff_ct _ _ b a w0 H33 hb ha) (fun v39 H39 r39 => ?_)
      obtain ⟨vr, rfl, hr, hs39⟩ := r39
      rw [if_neg (by omega)] at hr ⊢
      replace ha := ha.nw hs39
      replace hb := hb.nw hs39
      replace he := he.nw hs39
      replace hc := hc.nw hs39
      replace hr := hr.rd.any
      replace hs := hs.tr hs39
      refine LR.v (Y.move rfl rfl) (Wd.u rfl) rfl rfl ?_
      refine LR.v (Y.extract rfl rfl rfl) (Wd.u rfl) rfl rfl ?_
      refine LR.v (Y.extract rfl rfl rfl) (Wd.u rfl) rfl rfl ?_
      refine LR.v (Y.assign rfl rfl) (Wd.u rfl) rfl rfl ?_
      refine LR.v (Y.assign rfl rfl) (Wd.u rfl) rfl rfl ?_
      refine LR.nil ?_
      refine hK10 _ _ ?_
      refine CW.seq (fun K11 hK11 hE11 => ?_)
      refine CW.region ?_
      refine LR.v (Y.move rfl rfl) (Wd.u rfl) rfl rfl ?_
      refine LR.v ((Y.eql rfl rfl rfl).isT (rfl)) (Wd.u rfl) rfl rfl ?_
      refine LR.v (Y.move rfl rfl) (Wd.u rfl) rfl rfl ?_
      refine LR.v (Y.move rfl rfl) (Wd.g rfl rfl rfl) rfl rfl ?_
      refine LR.v ((Y.eql rfl rfl rfl).isT (rfl)) (Wd.g rfl rfl rfl) rfl rfl ?_
      refine LR.v (Y.pick_t rfl rfl rfl) (Wd.u rfl) rfl rfl ?_
      refine LR.v (Y.move rfl rfl) (Wd.u rfl) rfl rfl ?_
      refine LR.v (Y.move rfl rfl) (Wd.g rfl rfl rfl) rfl rfl ?_
      refine LR.v ((Y.eql rfl rfl rfl).isT (rfl)) (Wd.g rfl rfl rfl) rfl rfl ?_
      refine LR.v (Y.pick_t rfl rfl rfl) (Wd.u rfl) rfl rfl ?_
      refine LR.v (Y.move rfl rfl) (Wd.u rfl) rfl rfl ?_
      refine LR.v (Y.move rfl rfl) (Wd.g rfl rfl rfl) rfl rfl ?_
      refine LR.v (Y.move rfl rfl) (Wd.g rfl rfl rfl) rfl rfl ?_
      -- call selvage/selvageref12.Same
      refine LR.call rfl Try.call15 rfl (Wd.g rfl rfl rfl) rfl rfl (same_ct _ _ _ _ w0 H39 hc hb) (fun v55 H55 r55 => ?_)
      obtain ⟨hv55, rfl⟩ := r55
      rw [decide_eq_true rfl] at hv55
      subst hv55
      refine LR.v (Y.pick_t rfl rfl rfl) (Wd.u rfl) rfl rfl ?_
      refine LR.v (Y.move rfl rfl) (Wd.u rfl) rfl rfl ?_
      refine LR.v (Y.move rfl rfl) (Wd.g rfl rfl rfl) rfl rfl ?_
      -- call selvage/selvagelaw12.kept
      refine LR.call rfl Try.call17 rfl (Wd.g rfl rfl rfl) rfl rfl (kept_ct _ _ w0 H55 he hp (by omega)) (fun v59 H59 r59 => ?_)
      obtain ⟨rfl, rfl⟩ := r59
      rw [keptE_script]
      refine LR.v (Y.move rfl rfl) (Wd.g rfl rfl rfl) rfl rfl ?_
      -- call selvage/selvagelaw12.kept
      refine LR.call rfl Try.call17 rfl (Wd.g rfl rfl rfl) rfl rfl (kept_ct _ _ w0 H59 hr hp2 (by omega)) (fun v61 H61 r61 => ?_)
      obtain ⟨rfl, rfl⟩ := r61
      rw [keptE_script]
      refine LR.v ((Y.eql rfl rfl rfl).isT (by rw [lcs_symm])) (Wd.g rfl rfl rfl) rfl rfl ?_
      refine LR.v (Y.pick_t rfl rfl rfl) (Wd.u rfl) rfl rfl ?_
      refine LR.v (Y.assign rfl rfl) (Wd.u rfl) rfl rfl ?_
      refine LR.nil ?_
      refine hK11 _ _ ?_
      refine CW.ret (hret .ret (.inr rfl) _ _ _ (res1 rfl rfl) ?_)
      exact ⟨rfl, hs⟩

end Go.Proofs.Ytkofoccjnoenlaa.LinK
