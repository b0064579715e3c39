/-
  What is never paired; of several that are the same the one with the same last name.
-/
import Derived.Test.YtclhnkmkejijjaaRenH
namespace Go.Proofs.Ytclhnkmkejijjaa.RenI
open Go.Proofs.Ytclhnkmkejijjaa.E Go.RowKit Go.Proofs.Ytclhnkmkejijjaa.RenA Go.Proofs.Ytclhnkmkejijjaa.RenB Go.Proofs.Ytclhnkmkejijjaa.RenC Go.Proofs.Ytclhnkmkejijjaa.RenD Go.Proofs.Ytclhnkmkejijjaa.RenE Go.Proofs.Ytclhnkmkejijjaa.RenF Go.Proofs.Ytclhnkmkejijjaa.RenG Go.Proofs.Ytclhnkmkejijjaa.RenH
set_option maxRecDepth 20000
set_option linter.unusedVariables false
set_option linter.unusedSimpArgs false
set_option linter.unusedSectionVars false
set_option maxRecDepth 100000 in
theorem inf26 : Inf Try.prog 26 35 3 48 := ⟨Try.underlying26, _, _, rfl, rfl, rfl, rfl, rfl⟩

theorem Nx.z {k h k2 : Nat} (x : Nx 0 h k2) : Nx k h k2 := by unfold Nx at *; omega
theorem det_none {cs : List Ch} {out : List Pr} (h : DetP cs out) (h0 : goneL cs = [] ∨ comeL cs = []) : out = [] := by
  obtain ⟨L, h1, _, h2, _⟩ := h
  have key : (exL (goneL cs) (comeL cs)).1 = [] ∧ candG (exL (goneL cs) (comeL cs)).2.1 (exL (goneL cs) (comeL cs)).2.2 = [] := by
    rcases h0 with h0 | h0 <;> rw [h0]
    · refine ⟨rfl, ?_⟩
      show candG [] (comeL cs) = []
      unfold candG; split <;> rfl
    · have : ∀ (g left : List Fl), g.foldl exStep ([], left, []) = ([], left ++ g, []) := by
        intro g
        induction g with
        | nil => intro left; simp
        | cons x g ih => intro left; rw [List.foldl_cons, exStep_no (by simp [pst]), ih]; simp
      have e : exL (goneL cs) [] = ([], goneL cs, []) := by unfold exL; rw [this]; simp
      rw [e]
      refine ⟨rfl, ?_⟩
      simp only
      unfold candG
      split
      · unfold candL cand1; induction goneL cs <;> simp_all
      · rfl
  rw [key.2] at h1
  rw [key.1, List.perm_nil.1 h1] at h2
  exact List.perm_nil.1 h2
theorem diffL_all {Q : Fl → Prop} (hz : Q zFl) : ∀ (a b : List Fl), (∀ x ∈ a, Q x) → (∀ x ∈ b, Q x) → ∀ c ∈ diffL a b, Q c.o ∧ Q c.n
  | [], [], _, _ => by rw [diffL]; simp
  | x :: a, [], ha, hb => by
    rw [diffL]
    intro c hc
    rcases List.mem_cons.1 hc with rfl | hc
    · exact ⟨ha _ (by simp), hz⟩
    · exact diffL_all hz a [] (fun y hy => ha y (by simp [hy])) hb c hc
  | [], y :: b, ha, hb => by
    rw [diffL]
    intro c hc
    rcases List.mem_cons.1 hc with rfl | hc
    · exact ⟨hz, hb _ (by simp)⟩
    · exact diffL_all hz [] b ha (fun y hy => hb y (by simp [hy])) c hc
  | x :: a, y :: b, ha, hb => by
    have h1 := diffL_all hz a (y :: b) (fun y hy => ha y (by simp [hy])) hb
    have h2 := diffL_all hz (x :: a) b ha (fun y hy => hb y (by simp [hy]))
    have h3 := diffL_all hz a b (fun y hy => ha y (by simp [hy])) (fun y hy => hb y (by simp [hy]))
    rw [diffL]
    split
    · intro c hc
      rcases List.mem_cons.1 hc with rfl | hc
      · exact ⟨ha _ (by simp), hz⟩
      · exact h1 c hc
    · split
      · intro c hc
        rcases List.mem_cons.1 hc with rfl | hc
        · exact ⟨hz, hb _ (by simp)⟩
        · exact h2 c hc
      · split
        · exact h3
        · intro c hc
          rcases List.mem_cons.1 hc with rfl | hc
          · exact ⟨ha _ (by simp), hb _ (by simp)⟩
          · exact h3 c hc
termination_by a b => a.length + b.length
/-- a small file of these bytes, or of none -/
def Nv (sd : SV) (d : List UInt8) (x : Fl) : Prop := ((x.v = sd ∧ x.d = d) ∨ (x.v = zSV ∧ x.d = [])) ∧ x.p.length ≤ 1000 ∧ 0 ≤ x.k ∧ x.k ≤ 10
theorem Nv.z (sd : SV) (d : List UInt8) : Nv sd d zFl := ⟨.inr ⟨rfl, rfl⟩, by decide⟩
theorem Nv.R {sd : SV} {d : List UInt8} {x : Fl} {F : Nat → Prop} {H : Heap} (h : Nv sd d x) (hd : Rd F H fB 1 sd.v d) : FlR (fun _ => True) H x := by
  obtain ⟨h1, h2, h3, h4⟩ := h
  refine ⟨?_, by omega⟩
  rcases h1 with ⟨e1, e2⟩ | ⟨e1, e2⟩
  · rw [e1, e2]; exact hd.any
  · rw [e1, e2]; exact Rd.nil _ _ _ _
theorem Nv.b {sd : SV} {d : List UInt8} {x : Fl} (h : Nv sd d x) (hd : d.length ≤ 1048576) : x.p.length ≤ 9223372036854775806 ∧ x.d.length ≤ 1048576 := by
  obtain ⟨h1, h2, h3, h4⟩ := h
  refine ⟨by omega, ?_⟩
  rcases h1 with ⟨e1, e2⟩ | ⟨e1, e2⟩
  · rw [e2]; exact hd
  · rw [e2]; simp
theorem Nv.m1 {sd : SV} {d p : List UInt8} {k : Int} (h : p.length ≤ 1000) (h1 : 0 ≤ k) (h2 : k ≤ 10) : Nv sd d ⟨p, k, d, sd⟩ := ⟨.inl ⟨rfl, rfl⟩, h, h1, h2⟩
theorem Nv.m0 {sd : SV} {d p : List UInt8} {k : Int} (h : p.length ≤ 1000) (h1 : 0 ≤ k) (h2 : k ≤ 10) : Nv sd d ⟨p, k, [], zSV⟩ := ⟨.inr ⟨rfl, rfl⟩, h, h1, h2⟩
theorem nv1 {sd : SV} {d : List UInt8} {x : Fl} (h : Nv sd d x) : ∀ y ∈ [x], Nv sd d y := by intro y hy; rw [List.mem_singleton] at hy; rw [hy]; exact h
theorem nv2 {sd : SV} {d : List UInt8} {x z : Fl} (h : Nv sd d x) (h2 : Nv sd d z) : ∀ y ∈ [x, z], Nv sd d y := by
  intro y hy
  simp only [List.mem_cons, List.not_mem_nil, or_false] at hy
  rcases hy with rfl | rfl
  · exact h
  · exact h2
theorem never0 {d : List UInt8} {sd : SV} {k : Int} (hk : k = 3 ∨ d = []) {out : List Pr} (h : DetP (diffL [⟨[97], k, d, sd⟩] [⟨[98], k, d, sd⟩]) out) : out = [] := by
  have e : diffL [⟨[97], k, d, sd⟩] [⟨[98], k, d, sd⟩] = [⟨⟨[97], k, d, sd⟩, zFl⟩, ⟨zFl, ⟨[98], k, d, sd⟩⟩] := by
    rw [diffL, if_pos (show Op.bytesLess [97] [98] = true by decide), diffL, diffL]
  rw [e] at h
  refine det_none h (.inl ?_)
  rcases hk with rfl | rfl <;> simp [goneL, cntF, Fl.c, zFl]
theorem never2 {d : List UInt8} {sd : SV} {out : List Pr} (h : DetP (diffL [⟨[97], 1, d, sd⟩] [⟨[97], 1, d, sd⟩, ⟨[98], 1, d, sd⟩]) out) : out = [] := by
  have e : diffL [⟨[97], 1, d, sd⟩] [⟨[97], 1, d, sd⟩, ⟨[98], 1, d, sd⟩] = [⟨zFl, ⟨[98], 1, d, sd⟩⟩] := by
    rw [diffL, if_neg (show ¬ Op.bytesLess [97] [97] = true by decide), if_neg (show ¬ Op.bytesLess [97] [97] = true by decide), if_pos (by simp [sameF]), diffL, diffL]
  rw [e] at h
  exact det_none h (.inl (by simp [goneL]))
theorem never3 {d : List UInt8} {sd : SV} {out : List Pr} (h : DetP (diffL [⟨[97], 1, d, sd⟩, ⟨[98], 1, d, sd⟩] [⟨[98], 1, d, sd⟩]) out) : out = [] := by
  have e : diffL [⟨[97], 1, d, sd⟩, ⟨[98], 1, d, sd⟩] [⟨[98], 1, d, sd⟩] = [⟨⟨[97], 1, d, sd⟩, zFl⟩] := by
    rw [diffL, if_pos (show Op.bytesLess [97] [98] = true by decide), diffL, if_neg (show ¬ Op.bytesLess [98] [98] = true by decide), if_neg (show ¬ Op.bytesLess [98] [98] = true by decide), if_pos (by simp [sameF]), diffL]
  rw [e] at h
  exact det_none h (.inr (by simp [comeL]))

set_option maxHeartbeats 8000000 in
theorem never_ct (v1 : Value) (d : List UInt8) (kind : Int) (w0 : World) (H0 : Heap)
    (hd : RdT H0 fB 1 v1 d) (hkw : -9223372036854775808 ≤ kind ∧ kind ≤ 9223372036854775807) :
    Ct Try.prog w0 9 #[v1, .int .i64 kind] H0 (fun r H2 => r = .bool true ∧ Nw H0 H2) := by
  refine Ct.enter (args := [v1, .int .i64 kind]) Try.func9 rfl rfl rfl ?_
  intro Q0 hret
  have hm0 : Nw H0 H0 := Mo.refl _ _
  replace hd := hd.bnd
  have bf_hd := Rd.bf hd
  have hdl0 := hd.len
  obtain ⟨sd, rfl⟩ : ∃ s : SV, v1 = s.v := ⟨toSV v1, hd.sv.symm⟩
  refine CW.seq (fun K1 hK1 hE1 => ?_)
  refine CW.region ?_
  refine LR.v (Y.assign rfl rfl) (Wd.u rfl) rfl rfl ?_
  refine LR.nil ?_
  refine hK1 _ _ ?_
  refine CW.seq (fun K2 hK2 hE2 => ?_)
  refine CW.seq (fun K3 hK3 hE3 => ?_)
  refine CW.region ?_
  -- call selvage/selvagelaw16.known
  refine LR.call rfl Try.call10 rfl (Wd.u rfl) rfl rfl (known_ct w0 _) (fun v9 H9 r9 => ?_)
  obtain ⟨rfl, hs9⟩ := r9
  replace hd := hd.nw hs9
  replace hm0 := hm0.tr hs9
  have hz1 := hs9.size
  refine LR.v (Y.not rfl rfl) (Wd.u rfl) rfl rfl ?_
  refine LR.nil ?_
  refine hK3 _ _ ?_
  refine CW.cond_f rfl ?_
  refine CW.skip ?_
  refine hK2 _ _ ?_
  refine CW.seq (fun K4 hK4 hE4 => ?_)
  refine CW.seq (fun K5 hK5 hE5 => ?_)
  refine CW.region ?_
  refine LR.v (Y.move rfl rfl) (Wd.u rfl) rfl rfl ?_
  refine LR.v (Y.len hd rfl Try.runUnderlying22 rfl) (Wd.u rfl) rfl rfl ?_
  refine LR.v (Y.eql rfl rfl rfl) (Wd.u rfl) rfl rfl ?_
  refine LR.v (Y.move rfl rfl) (Wd.u rfl) rfl rfl ?_
  refine LR.splitp (d := 14) rfl (fun g14 => ?_) (fun g14 => ?_)
  ·
    refine LR.gs rfl rfl rfl rfl rfl rfl ?_
    refine LR.gs rfl rfl rfl rfl rfl rfl ?_
    refine LR.gs rfl rfl rfl rfl rfl rfl ?_
    refine LR.v (Y.pick_t rfl rfl rfl) (Wd.u rfl) rfl rfl ?_
    refine LR.nil ?_
    refine hK5 _ _ ?_
    refine CW.cond_t rfl ?_
    refine CW.seq (fun K6 hK6 hE6 => ?_)
    refine CW.region ?_
    refine LR.v (Y.assign rfl rfl) (Wd.u rfl) rfl rfl ?_
    refine LR.nil ?_
    refine hK6 _ _ ?_
    refine CW.ret (hE4 .ret nofun _ _ (hret .ret (.inr rfl) _ _ _ (res1 rfl rfl) ?_))
    exact ⟨rfl, hm0⟩
  ·
    refine LR.v (Y.move rfl rfl) (Wd.g rfl rfl rfl) rfl rfl ?_
    refine LR.v (Y.len hd rfl Try.runUnderlying22 rfl) (Wd.g rfl rfl rfl) rfl rfl ?_
    refine LR.v (Y.gtr rfl rfl rfl) (Wd.g rfl rfl rfl) rfl rfl ?_
    refine LR.v (Y.pick_f rfl rfl rfl) (Wd.u rfl) rfl rfl ?_
    refine LR.nil ?_
    refine hK5 _ _ ?_
    refine CW.condp rfl (fun c18 => ?_) (fun c18 => ?_)
    ·
      refine CW.seq (fun K7 hK7 hE7 => ?_)
      refine CW.region ?_
      refine LR.v (Y.assign rfl rfl) (Wd.u rfl) rfl rfl ?_
      refine LR.nil ?_
      refine hK7 _ _ ?_
      refine CW.ret (hE4 .ret nofun _ _ (hret .ret (.inr rfl) _ _ _ (res1 rfl rfl) ?_))
      exact ⟨rfl, hm0⟩
    ·
      refine CW.skip ?_
      refine hK4 _ _ ?_
      refine CW.seq (fun K8 hK8 hE8 => ?_)
      refine CW.region ?_
      refine LR.v (Y.move rfl rfl) (Wd.u rfl) rfl rfl ?_
      refine LR.v (Y.build (v := .agg (fFl (⟨[97], 1, d, sd⟩ : Fl)).toArray) rfl rfl (by intro w; kernel_rfl)) (Wd.u rfl) rfl rfl ?_
      refine LR.z (Z.allocv rfl Try.zeroValue35) (Wd.u rfl) rfl rfl (fun v5 H5 r5 => ?_)
      obtain ⟨rfl, va0, hs5, ob5, hH5⟩ := r5
      have hzs5 : H5.size = H9.size + 1 := by rw [hH5]; simp
      have df1 := (DF.new (bf_hd.mono hm0.size) : DF _ (H9.size + 1))
      have nx2 : Nx 0 H0.size (H9.size + 1) := Nx.new hm0.size
      replace hd := hd.nw hs5
      replace hm0 := hm0.tr hs5
      have hz2 := hs5.size
      refine LR.s (S.var va0 (_) (fFl (⟨[97], 1, d, sd⟩ : Fl)) rfl rfl rfl rfl (fFl_one (⟨[97], 1, d, sd⟩ : Fl)) Try.sizeOf35 (rfl) (Nat.le_of_ble_eq_true rfl) (rfl)) (Wd.u rfl) rfl (fun H5_3 r5_3 => ?_)
      obtain ⟨va0, hs5_3⟩ := r5_3
      replace hs5_3 := hs5_3.md1
      replace hd := hd.upL hs5_3 (DFL.cons df1 DFL.nil)
      replace hm0 := (Mo.trL (ks := []) (hm0.mdn []) hs5_3 (MIL.cons (MI.app MI.z (nx2) (Nat.le_refl _)) MIL.nil)).nil
      have hz3 := hs5_3.size
      refine LR.nil ?_
      refine hK8 _ _ ?_
      refine CW.seq (fun K9 hK9 hE9 => ?_)
      refine CW.region ?_
      refine LR.v (Y.move rfl rfl) (Wd.u rfl) rfl rfl ?_
      refine LR.v (Y.build (v := .agg (fFl (⟨[98], 1, d, sd⟩ : Fl)).toArray) rfl rfl (by intro w; kernel_rfl)) (Wd.u rfl) rfl rfl ?_
      refine LR.z (Z.allocv rfl Try.zeroValue35) (Wd.u rfl) rfl rfl (fun v6 H6 r6 => ?_)
      obtain ⟨rfl, vb0, hs6, ob6, hH6⟩ := r6
      have hzs6 : H6.size = H5_3.size + 1 := by rw [hH6]; simp
      have df3 := (DF.new (bf_hd.mono hm0.size) : DF _ (H5_3.size + 1))
      have dj4 : Dj (H9.size + 1) (H5_3.size + 1) := Dj.new va0.lt
      have nx5 : Nx 0 H0.size (H5_3.size + 1) := Nx.new hm0.size
      replace hd := hd.nw hs6
      replace va0 := va0.nw hs6
      replace hm0 := hm0.tr hs6
      have hz4 := hs6.size
      refine LR.s (S.var vb0 (_) (fFl (⟨[98], 1, d, sd⟩ : Fl)) rfl rfl rfl rfl (fFl_one (⟨[98], 1, d, sd⟩ : Fl)) Try.sizeOf35 (rfl) (Nat.le_of_ble_eq_true rfl) (rfl)) (Wd.u rfl) rfl (fun H6_3 r6_3 => ?_)
      obtain ⟨vb0, hs6_3⟩ := r6_3
      replace hs6_3 := hs6_3.md1
      replace hd := hd.upL hs6_3 (DFL.cons df3 DFL.nil)
      replace va0 := va0.upL hs6_3 (DL.cons dj4 DL.nil)
      replace hm0 := (Mo.trL (ks := []) (hm0.mdn []) hs6_3 (MIL.cons (MI.app MI.z (nx5) (Nat.le_refl _)) MIL.nil)).nil
      have hz5 := hs6_3.size
      refine LR.nil ?_
      refine hK9 _ _ ?_
      refine CW.seq (fun K10 hK10 hE10 => ?_)
      refine CW.region_any (fun Hq => Nw H6_3 Hq) [] rfl ?_
      have hqs := Nw.refl H6_3
      refine LH.take 0 (by kernel_rfl) rfl (by kernel_rfl) (by kernel_rfl) (by kernel_rfl) (fun Hq hq => Y.loadN (va0.pt.nw hq) rfl Try.isAgg35 Try.sizeOf35 (rfl) rfl) (Wd.u rfl) rfl rfl hqs ?_
      refine LH.take 2 (by kernel_rfl) rfl (by kernel_rfl) (by kernel_rfl) (by kernel_rfl) (fun Hq hq => Y.loadN (vb0.pt.nw hq) rfl Try.isAgg35 Try.sizeOf35 (rfl) rfl) (Wd.u rfl) rfl rfl hqs ?_
      refine LH.two (i := 1) (j := 3) (by kernel_rfl) ?_ ?_
      ·
        refine LO.z rfl (Z.litw _ ([(⟨[97], 1, d, sd⟩ : Fl)]) rfl inf26 rfl rfl rfl (by decide) (by decide) fFl_len fFl_one (rfl)) (Wd.u rfl) rfl rfl (fun v24 H24 r24 => ?_)
        obtain ⟨oa, hs24, ob24, hH24⟩ := r24
        have hzs24 : H24.size = H6_3.size + 1 := by rw [hH24]; simp
        have df6 := (DF.new (bf_hd.mono hm0.size) : DF _ (H6_3.size + 1))
        have dj7 : Dj (H9.size + 1) (H6_3.size + 1) := Dj.new va0.lt
        have dj8 : Dj (H5_3.size + 1) (H6_3.size + 1) := Dj.new vb0.lt
        have nx9 : Nx 0 H0.size (H6_3.size + 1) := Nx.new hm0.size
        replace hd := hd.nw hs24
        replace va0 := va0.nw hs24
        replace vb0 := vb0.nw hs24
        replace hm0 := hm0.tr hs24
        have hz6 := hs24.size
        have hq24 := hqs.tr hs24
        refine ⟨.inr hq24, LH.narrow (SH2 := fun Hq => Nw H24 Hq) (fun Hq hq => hq24.tr hq) ?_⟩
        have hqn24 := Nw.refl H24
        refine LH.take 4 (by kernel_rfl) rfl (by kernel_rfl) (by kernel_rfl) (by kernel_rfl) (fun Hq hq => Y.assign rfl rfl) (Wd.u rfl) rfl rfl hqn24 ?_
        refine LH.one (i := 3) (by kernel_rfl) ?_
        refine LO.z rfl (Z.litw _ ([(⟨[98], 1, d, sd⟩ : Fl)]) rfl inf26 rfl rfl rfl (by decide) (by decide) fFl_len fFl_one (rfl)) (Wd.u rfl) rfl rfl (fun v26 H26 r26 => ?_)
        obtain ⟨ob, hs26, ob26, hH26⟩ := r26
        have hzs26 : H26.size = H24.size + 1 := by rw [hH26]; simp
        have df10 := (DF.new (bf_hd.mono hm0.size) : DF _ (H24.size + 1))
        have dj11 : Dj (H9.size + 1) (H24.size + 1) := Dj.new va0.lt
        have dj12 : Dj (H5_3.size + 1) (H24.size + 1) := Dj.new vb0.lt
        have dj13 : Dj (H6_3.size + 1) (H24.size + 1) := Dj.new oa.le
        have nx14 : Nx 0 H0.size (H24.size + 1) := Nx.new hm0.size
        replace hd := hd.nw hs26
        replace va0 := va0.nw hs26
        replace vb0 := vb0.nw hs26
        replace oa := oa.nw hs26
        replace hm0 := hm0.tr hs26
        have hz7 := hs26.size
        have hq26 := hqn24.tr hs26
        refine ⟨.inr hq26, LH.narrow (SH2 := fun Hq => Nw H26 Hq) (fun Hq hq => hq26.tr hq) ?_⟩
        have hqn26 := Nw.refl H26
        refine LH.take 5 (by kernel_rfl) rfl (by kernel_rfl) (by kernel_rfl) (by kernel_rfl) (fun Hq hq => Y.assign rfl rfl) (Wd.u rfl) rfl rfl hqn26 ?_
        refine LH.done (by kernel_rfl) ?_
        have hqe := hqn26
        refine hK10 _ _ ?_
        refine CW.cut (fun (s_ : (Value) × (Nat) × (List Fl) × (Value) × (Nat) × (List Fl)) => match s_ with | (va, ka, la, vb, kb, lb) => [(7, va), (8, vb)])
          (fun (s_ : (Value) × (Nat) × (List Fl) × (Value) × (Nat) × (List Fl)) (H : Heap) => match s_ with | (va, ka, la, vb, kb, lb) => (Ow ka 35 H fFl 3 va la) ∧ (Ow kb 35 H fFl 3 vb lb) ∧ (∀ x ∈ la, Nv sd d x) ∧ (∀ x ∈ lb, Nv sd d x) ∧ (la.length ≤ 2 ∧ lb.length ≤ 2) ∧ (∀ out, DetP (diffL la lb) out → out = []) ∧ (Nx (H6_3.size + 1) H26.size ka) ∧ (Nx (H24.size + 1) H26.size kb) ∧ (Dj ka kb) ∧ Mo (Ms [(H6_3.size + 1), (H24.size + 1)]) H26 H) (fun K11 hK11 hE11 => ?_) ?_
        ·
          have hcm11 : Mo (Ms [(H6_3.size + 1), (H24.size + 1)]) H26 H26 := Mo.refl _ _
          have nx_hcm11_oa := Nx.refl (H6_3.size + 1) H26.size
          have nx_hcm11_ob := Nx.refl (H24.size + 1) H26.size
          refine CW.seq (fun K12 hK12 hE12 => ?_)
          refine CW.region ?_
          refine LR.v (Y.move rfl rfl) (Wd.u rfl) rfl rfl ?_
          -- call selvage/selvagelaw16.within
          refine LR.call rfl Try.call20 rfl (Wd.u rfl) rfl rfl (within_ct _ _ w0 _ (by decide) hkw) (fun v28 H28 r28 => ?_)
          obtain ⟨k28, rfl, hk28, hs28⟩ := r28
          replace hd := hd.nw hs28
          replace va0 := va0.nw hs28
          replace vb0 := vb0.nw hs28
          replace oa := oa.nw hs28
          replace ob := ob.nw hs28
          replace hm0 := hm0.tr hs28
          replace hcm11 := hcm11.trN hs28
          have hz8 := hs28.size
          refine LR.nil ?_
          refine hK12 _ _ ?_
          refine CW.block (fun K13 hK13 hX13 hE13 => ?_)
          refine CW.seq (fun K14 hK14 hE14 => ?_)
          refine CW.region ?_
          refine LR.v (Y.eql rfl rfl rfl) (Wd.u rfl) rfl rfl ?_
          refine LR.v (Y.assign rfl rfl) (Wd.u rfl) rfl rfl ?_
          refine LR.nil ?_
          refine hK14 _ _ ?_
          refine CW.condp rfl (fun c29 => ?_) (fun c29 => ?_)
          ·
            refine CW.region ?_
            refine LR.v (Y.move rfl rfl) (Wd.u rfl) rfl rfl ?_
            refine LR.v (Y.move rfl rfl) (Wd.u rfl) rfl rfl ?_
            refine LR.v (Y.owAddr oa (0) rfl Try.runUnderlying26 Try.sizeOf35 rfl rfl (by first | rfl | omega) (by first | omega | (simp; omega) | (simp; done))) (Wd.u rfl) rfl rfl ?_
            refine LR.v (Y.fieldAddr (oa.pt (j := 0) (by first | omega | (simp; omega) | (simp; done))) rfl Try.runUnderlying35 rfl rfl Try.sizeOf3 (by decide) rfl) (Wd.u rfl) rfl rfl ?_
            refine LR.s (S.oww oa (0) 1 ((⟨[97], 3, d, sd⟩ : Fl)) rfl rfl rfl rfl Try.sizeOf3 (by first | omega | (simp; omega) | (simp; done)) (by decide) (rfl)) (Wd.u rfl) rfl (fun H10_4 r10_4 => ?_)
            obtain ⟨oa, hs10_4⟩ := r10_4
            replace hs10_4 := hs10_4.md
            replace hd := hd.upL hs10_4 (DFL.cons df6 DFL.nil)
            replace va0 := va0.upL hs10_4 (DL.cons dj7 DL.nil)
            replace vb0 := vb0.upL hs10_4 (DL.cons dj8 DL.nil)
            replace ob := ob.upL hs10_4 (DL.cons dj13.symm DL.nil)
            replace hm0 := (Mo.trL (ks := []) (hm0.mdn []) hs10_4 (MIL.cons (MI.app MI.z (nx9) (Nat.le_refl _)) MIL.nil)).nil
            replace hcm11 := hcm11.trL hs10_4 (MIL.cons (MI.app (MI.root (by simp)) (nx_hcm11_oa) (Nat.le_refl _)) MIL.nil)
            have hz9 := hs10_4.size
            refine LR.v (Y.owAddr ob (0) rfl Try.runUnderlying26 Try.sizeOf35 rfl rfl (by first | rfl | omega) (by first | omega | (simp; omega) | (simp; done))) (Wd.u rfl) rfl rfl ?_
            refine LR.v (Y.fieldAddr (ob.pt (j := 0) (by first | omega | (simp; omega) | (simp; done))) rfl Try.runUnderlying35 rfl rfl Try.sizeOf3 (by decide) rfl) (Wd.u rfl) rfl rfl ?_
            refine LR.s (S.oww ob (0) 1 ((⟨[98], 3, d, sd⟩ : Fl)) rfl rfl rfl rfl Try.sizeOf3 (by first | omega | (simp; omega) | (simp; done)) (by decide) (rfl)) (Wd.u rfl) rfl (fun H10_7 r10_7 => ?_)
            obtain ⟨ob, hs10_7⟩ := r10_7
            replace hs10_7 := hs10_7.md
            replace hd := hd.upL hs10_7 (DFL.cons df10 DFL.nil)
            replace va0 := va0.upL hs10_7 (DL.cons dj11 DL.nil)
            replace vb0 := vb0.upL hs10_7 (DL.cons dj12 DL.nil)
            replace oa := oa.upL hs10_7 (DL.cons dj13 DL.nil)
            replace hm0 := (Mo.trL (ks := []) (hm0.mdn []) hs10_7 (MIL.cons (MI.app MI.z (nx14) (Nat.le_refl _)) MIL.nil)).nil
            replace hcm11 := hcm11.trL hs10_7 (MIL.cons (MI.app (MI.root (by simp)) (nx_hcm11_ob) (Nat.le_refl _)) MIL.nil)
            have hz10 := hs10_7.size
            refine LR.nil ?_
            refine hK13 _ _ ?_
            refine QN.sub (hK11 (v24, (H6_3.size + 1), [⟨[97], 3, d, sd⟩], v26, (H24.size + 1), [⟨[98], 3, d, sd⟩]) _ ?_) ⟨rfl, rfl, trivial⟩
            exact ⟨oa, ob, nv1 (Nv.m1 (by decide) (by decide) (by decide)), nv1 (Nv.m1 (by decide) (by decide) (by decide)), (by simp), (fun out h => never0 (.inl rfl) h), nx_hcm11_oa, nx_hcm11_ob, dj13, hcm11⟩
          ·
            refine CW.seq (fun K15 hK15 hE15 => ?_)
            refine CW.region ?_
            refine LR.v (Y.eql rfl rfl rfl) (Wd.u rfl) rfl rfl ?_
            refine LR.v (Y.assign rfl rfl) (Wd.u rfl) rfl rfl ?_
            refine LR.nil ?_
            refine hK15 _ _ ?_
            refine CW.condp rfl (fun c37 => ?_) (fun c37 => ?_)
            ·
              refine CW.region ?_
              refine LR.v (Y.move rfl rfl) (Wd.u rfl) rfl rfl ?_
              refine LR.v (Y.move rfl rfl) (Wd.u rfl) rfl rfl ?_
              refine LR.v (Y.owAddr oa (0) rfl Try.runUnderlying26 Try.sizeOf35 rfl rfl (by first | rfl | omega) (by first | omega | (simp; omega) | (simp; done))) (Wd.u rfl) rfl rfl ?_
              refine LR.v (Y.fieldAddr (oa.pt (j := 0) (by first | omega | (simp; omega) | (simp; done))) rfl Try.runUnderlying35 rfl rfl Try.sizeOf22 (by decide) rfl) (Wd.u rfl) rfl rfl ?_
              refine LR.s (S.oww oa (0) 2 ((⟨[97], 1, [], zSV⟩ : Fl)) rfl rfl rfl rfl Try.sizeOf22 (by first | omega | (simp; omega) | (simp; done)) (by decide) (rfl)) (Wd.u rfl) rfl (fun H12_4 r12_4 => ?_)
              obtain ⟨oa, hs12_4⟩ := r12_4
              replace hs12_4 := hs12_4.md
              replace hd := hd.upL hs12_4 (DFL.cons df6 DFL.nil)
              replace va0 := va0.upL hs12_4 (DL.cons dj7 DL.nil)
              replace vb0 := vb0.upL hs12_4 (DL.cons dj8 DL.nil)
              replace ob := ob.upL hs12_4 (DL.cons dj13.symm DL.nil)
              replace hm0 := (Mo.trL (ks := []) (hm0.mdn []) hs12_4 (MIL.cons (MI.app MI.z (nx9) (Nat.le_refl _)) MIL.nil)).nil
              replace hcm11 := hcm11.trL hs12_4 (MIL.cons (MI.app (MI.root (by simp)) (nx_hcm11_oa) (Nat.le_refl _)) MIL.nil)
              have hz11 := hs12_4.size
              refine LR.v (Y.owAddr ob (0) rfl Try.runUnderlying26 Try.sizeOf35 rfl rfl (by first | rfl | omega) (by first | omega | (simp; omega) | (simp; done))) (Wd.u rfl) rfl rfl ?_
              refine LR.v (Y.fieldAddr (ob.pt (j := 0) (by first | omega | (simp; omega) | (simp; done))) rfl Try.runUnderlying35 rfl rfl Try.sizeOf22 (by decide) rfl) (Wd.u rfl) rfl rfl ?_
              refine LR.s (S.oww ob (0) 2 ((⟨[98], 1, [], zSV⟩ : Fl)) rfl rfl rfl rfl Try.sizeOf22 (by first | omega | (simp; omega) | (simp; done)) (by decide) (rfl)) (Wd.u rfl) rfl (fun H12_7 r12_7 => ?_)
              obtain ⟨ob, hs12_7⟩ := r12_7
              replace hs12_7 := hs12_7.md
              replace hd := hd.upL hs12_7 (DFL.cons df10 DFL.nil)
              replace va0 := va0.upL hs12_7 (DL.cons dj11 DL.nil)
              replace vb0 := vb0.upL hs12_7 (DL.cons dj12 DL.nil)
              replace oa := oa.upL hs12_7 (DL.cons dj13 DL.nil)
              replace hm0 := (Mo.trL (ks := []) (hm0.mdn []) hs12_7 (MIL.cons (MI.app MI.z (nx14) (Nat.le_refl _)) MIL.nil)).nil
              replace hcm11 := hcm11.trL hs12_7 (MIL.cons (MI.app (MI.root (by simp)) (nx_hcm11_ob) (Nat.le_refl _)) MIL.nil)
              have hz12 := hs12_7.size
              refine LR.nil ?_
              refine hK13 _ _ ?_
              refine QN.sub (hK11 (v24, (H6_3.size + 1), [⟨[97], 1, [], zSV⟩], v26, (H24.size + 1), [⟨[98], 1, [], zSV⟩]) _ ?_) ⟨rfl, rfl, trivial⟩
              exact ⟨oa, ob, nv1 (Nv.m0 (by decide) (by decide) (by decide)), nv1 (Nv.m0 (by decide) (by decide) (by decide)), (by simp), (fun out h => never0 (.inr rfl) h), nx_hcm11_oa, nx_hcm11_ob, dj13, hcm11⟩
            ·
              refine CW.seq (fun K16 hK16 hE16 => ?_)
              refine CW.region ?_
              refine LR.v (Y.eql rfl rfl rfl) (Wd.u rfl) rfl rfl ?_
              refine LR.v (Y.assign rfl rfl) (Wd.u rfl) rfl rfl ?_
              refine LR.nil ?_
              refine hK16 _ _ ?_
              refine CW.condp rfl (fun c45 => ?_) (fun c45 => ?_)
              ·
                refine CW.region ?_
                refine LR.v (Y.loadN va0.pt rfl Try.isAgg35 Try.sizeOf35 (rfl) rfl) (Wd.u rfl) rfl rfl ?_
                refine LR.v (Y.loadN vb0.pt rfl Try.isAgg35 Try.sizeOf35 (rfl) rfl) (Wd.u rfl) rfl rfl ?_
                refine LR.z (Z.litw _ ([(⟨[97], 1, d, sd⟩ : Fl), (⟨[98], 1, d, sd⟩ : Fl)]) rfl inf26 rfl rfl rfl (by decide) (by decide) fFl_len fFl_one (rfl)) (Wd.u rfl) rfl rfl (fun v49 H49 r49 => ?_)
                obtain ⟨ob, hs49, ob49, hH49⟩ := r49
                have hzs49 : H49.size = H28.size + 1 := by rw [hH49]; simp
                have df15 := (DF.new (bf_hd.mono hm0.size) : DF _ (H28.size + 1))
                have dj16 : Dj (H9.size + 1) (H28.size + 1) := Dj.new va0.lt
                have dj17 : Dj (H5_3.size + 1) (H28.size + 1) := Dj.new vb0.lt
                have dj18 : Dj (H6_3.size + 1) (H28.size + 1) := Dj.new oa.le
                have nx19 : Nx 0 H0.size (H28.size + 1) := Nx.new hm0.size
                have nx20 : Nx 0 H26.size (H28.size + 1) := Nx.new hcm11.size
                replace hd := hd.nw hs49
                replace va0 := va0.nw hs49
                replace vb0 := vb0.nw hs49
                replace oa := oa.nw hs49
                replace hm0 := hm0.tr hs49
                replace hcm11 := hcm11.trN hs49
                have hz13 := hs49.size
                refine LR.v (Y.assign rfl rfl) (Wd.u rfl) rfl rfl ?_
                refine LR.nil ?_
                refine hK13 _ _ ?_
                refine QN.sub (hK11 (v24, (H6_3.size + 1), [(⟨[97], 1, d, sd⟩ : Fl)], v49, (H28.size + 1), [(⟨[97], 1, d, sd⟩ : Fl), (⟨[98], 1, d, sd⟩ : Fl)]) _ ?_) ⟨rfl, rfl, trivial⟩
                exact ⟨oa, ob, nv1 (Nv.m1 (by decide) (by decide) (by decide)), nv2 (Nv.m1 (by decide) (by decide) (by decide)) (Nv.m1 (by decide) (by decide) (by decide)), (by simp), (fun out h => never2 h), nx_hcm11_oa, (Nx.z (nx20)), dj18, hcm11⟩
              ·
                refine CW.seq (fun K17 hK17 hE17 => ?_)
                refine CW.region ?_
                refine LR.v (Y.eql rfl rfl rfl) (Wd.u rfl) rfl rfl ?_
                refine LR.v (Y.assign rfl rfl) (Wd.u rfl) rfl rfl ?_
                refine LR.nil ?_
                refine hK17 _ _ ?_
                refine CW.condp rfl (fun c50 => ?_) (fun c50 => ?_)
                ·
                  refine CW.region ?_
                  refine LR.v (Y.loadN va0.pt rfl Try.isAgg35 Try.sizeOf35 (rfl) rfl) (Wd.u rfl) rfl rfl ?_
                  refine LR.v (Y.loadN vb0.pt rfl Try.isAgg35 Try.sizeOf35 (rfl) rfl) (Wd.u rfl) rfl rfl ?_
                  refine LR.z (Z.litw _ ([(⟨[97], 1, d, sd⟩ : Fl), (⟨[98], 1, d, sd⟩ : Fl)]) rfl inf26 rfl rfl rfl (by decide) (by decide) fFl_len fFl_one (rfl)) (Wd.u rfl) rfl rfl (fun v54 H54 r54 => ?_)
                  obtain ⟨oa, hs54, ob54, hH54⟩ := r54
                  have hzs54 : H54.size = H28.size + 1 := by rw [hH54]; simp
                  have df21 := (DF.new (bf_hd.mono hm0.size) : DF _ (H28.size + 1))
                  have dj22 : Dj (H9.size + 1) (H28.size + 1) := Dj.new va0.lt
                  have dj23 : Dj (H5_3.size + 1) (H28.size + 1) := Dj.new vb0.lt
                  have dj24 : Dj (H24.size + 1) (H28.size + 1) := Dj.new ob.le
                  have nx25 : Nx 0 H0.size (H28.size + 1) := Nx.new hm0.size
                  have nx26 : Nx 0 H26.size (H28.size + 1) := Nx.new hcm11.size
                  replace hd := hd.nw hs54
                  replace va0 := va0.nw hs54
                  replace vb0 := vb0.nw hs54
                  replace ob := ob.nw hs54
                  replace hm0 := hm0.tr hs54
                  replace hcm11 := hcm11.trN hs54
                  have hz14 := hs54.size
                  refine LR.v (Y.assign rfl rfl) (Wd.u rfl) rfl rfl ?_
                  refine LR.nil ?_
                  refine hK13 _ _ ?_
                  refine QN.sub (hK11 (v54, (H28.size + 1), [(⟨[97], 1, d, sd⟩ : Fl), (⟨[98], 1, d, sd⟩ : Fl)], v26, (H24.size + 1), [(⟨[98], 1, d, sd⟩ : Fl)]) _ ?_) ⟨rfl, rfl, trivial⟩
                  exact ⟨oa, ob, nv2 (Nv.m1 (by decide) (by decide) (by decide)) (Nv.m1 (by decide) (by decide) (by decide)), nv1 (Nv.m1 (by decide) (by decide) (by decide)), (by simp), (fun out h => never3 h), (Nx.z (nx26)), nx_hcm11_ob, dj24.symm, hcm11⟩
                ·
                  exfalso; omega
        ·
          rintro ⟨va, ka, la, vb, kb, lb⟩ Hcut0 hIcut0
          obtain ⟨oa, ob, hla, hlb, hll, hdt, nxl_oa, nxl_ob, dj_oa_ob, hlmcut0⟩ := hIcut0
          have df27 := DF.app (df6) (bf_hd.mono hm0.size) nxl_oa
          have dj28 : Dj (H9.size + 1) ka := Dj.app (dj7) va0.lt nxl_oa
          have dj29 : Dj (H5_3.size + 1) ka := Dj.app (dj8) vb0.lt nxl_oa
          have nx30 : Nx 0 H0.size ka := Nx.tr (nx9) nxl_oa hm0.size
          have df31 := DF.app (df10) (bf_hd.mono hm0.size) nxl_ob
          have dj32 : Dj (H9.size + 1) kb := Dj.app (dj11) va0.lt nxl_ob
          have dj33 : Dj (H5_3.size + 1) kb := Dj.app (dj12) vb0.lt nxl_ob
          have nx34 : Nx 0 H0.size kb := Nx.tr (nx14) nxl_ob hm0.size
          replace hd := hd.upL hlmcut0 (DFL.cons df6 (DFL.cons df10 DFL.nil))
          replace va0 := va0.upL hlmcut0 (DL.cons dj7 (DL.cons dj11 DL.nil))
          replace vb0 := vb0.upL hlmcut0 (DL.cons dj8 (DL.cons dj12 DL.nil))
          replace hm0 := (Mo.trL (ks := []) (hm0.mdn []) hlmcut0 (MIL.cons (MI.app MI.z (nx9) (Nat.le_refl _)) (MIL.cons (MI.app MI.z (nx14) (Nat.le_refl _)) MIL.nil))).nil
          have hz15 := hlmcut0.size
          have hle_oa := oa.le
          have hle_ob := ob.le
          have dj35 := dj_oa_ob
          have nx36 := nxl_oa
          have nx37 := nxl_ob
          refine CW.seq (fun K18 hK18 hE18 => ?_)
          refine CW.region ?_
          refine LR.v (Y.move rfl rfl) (Wd.u rfl) rfl rfl ?_
          refine LR.v (Y.move rfl rfl) (Wd.u rfl) rfl rfl ?_
          -- call selvage/selvageref15.Diff
          refine LR.call rfl Try.call14 rfl (Wd.u rfl) rfl rfl (diff_ct va vb la lb w0 _ oa.rd.any ob.rd.any (fun x h => (hla x h).R hd) (fun x h => (hlb x h).R hd) (by omega) (by omega)) (fun v57 H57 r57 => ?_)
          obtain ⟨vc_, kc, rfl, oc, hkc, hdl, hs57⟩ := r57
          have df38 := DF.app (DF.z) (bf_hd.mono hm0.size) hkc
          have dj39 : Dj (H9.size + 1) kc := Dj.app (Dj.z) va0.lt hkc
          have dj40 : Dj (H5_3.size + 1) kc := Dj.app (Dj.z) vb0.lt hkc
          have dj41 : Dj kb kc := Dj.app (Dj.z) ob.le hkc
          have dj42 : Dj ka kc := Dj.app (Dj.z) oa.le hkc
          have nx43 : Nx 0 H0.size kc := Nx.tr (Nx.refl 0 _) hkc hm0.size
          replace hd := hd.nw hs57
          replace va0 := va0.nw hs57
          replace vb0 := vb0.nw hs57
          replace ob := ob.nw hs57
          replace oa := oa.nw hs57
          replace hm0 := hm0.tr hs57
          have hz16 := hs57.size
          have hle_oc := oc.le
          -- call selvage/rename.Detect
          refine LR.call rfl Try.call17 rfl (Wd.u rfl) rfl rfl (detect_ct v57 (diffL la lb) w0 _ oc.rd.any (fun c hc => (diffL_all (Nv.z sd d) la lb hla hlb c hc).1.R hd) (fun c hc => (diffL_all (Nv.z sd d) la lb hla hlb c hc).2.R hd) (by omega) (fun c hc => ⟨(diffL_all (Nv.z sd d) la lb hla hlb c hc).1.b (by omega), (diffL_all (Nv.z sd d) la lb hla hlb c hc).2.b (by omega)⟩)) (fun v58 H58 r58 => ?_)
          obtain ⟨vd_, kd, out, rfl, od, hkd, hdet, hs58⟩ := r58
          have df44 := DF.app (DF.z) (bf_hd.mono hm0.size) hkd
          have dj45 : Dj (H9.size + 1) kd := Dj.app (Dj.z) va0.lt hkd
          have dj46 : Dj (H5_3.size + 1) kd := Dj.app (Dj.z) vb0.lt hkd
          have dj47 : Dj kb kd := Dj.app (Dj.z) ob.le hkd
          have dj48 : Dj ka kd := Dj.app (Dj.z) oa.le hkd
          have dj49 : Dj kc kd := Dj.app (Dj.z) oc.le hkd
          have nx50 : Nx 0 H0.size kd := Nx.tr (Nx.refl 0 _) hkd hm0.size
          replace hd := hd.nw hs58
          replace va0 := va0.nw hs58
          replace vb0 := vb0.nw hs58
          replace ob := ob.nw hs58
          replace oa := oa.nw hs58
          replace oc := oc.nw hs58
          replace hm0 := hm0.tr hs58
          have hz17 := hs58.size
          have hle_od := od.le
          have hout := hdt out hdet
          subst hout
          refine LR.v (Y.len od.rd rfl Try.runUnderlying31 rfl) (Wd.u rfl) rfl rfl ?_
          refine LR.v ((Y.eql rfl rfl rfl).isT (rfl)) (Wd.u rfl) rfl rfl ?_
          refine LR.v (Y.assign rfl rfl) (Wd.u rfl) rfl rfl ?_
          refine LR.nil ?_
          refine hK18 _ _ ?_
          refine CW.ret (hret .ret (.inr rfl) _ _ _ (res1 rfl rfl) ?_)
          exact ⟨rfl, hm0⟩
      ·
        refine LO.z rfl (Z.litw _ ([(⟨[98], 1, d, sd⟩ : Fl)]) rfl inf26 rfl rfl rfl (by decide) (by decide) fFl_len fFl_one (rfl)) (Wd.u rfl) rfl rfl (fun v26 H26 r26 => ?_)
        obtain ⟨ob, hs26, ob26, hH26⟩ := r26
        have hzs26 : H26.size = H6_3.size + 1 := by rw [hH26]; simp
        have df51 := (DF.new (bf_hd.mono hm0.size) : DF _ (H6_3.size + 1))
        have dj52 : Dj (H9.size + 1) (H6_3.size + 1) := Dj.new va0.lt
        have dj53 : Dj (H5_3.size + 1) (H6_3.size + 1) := Dj.new vb0.lt
        have nx54 : Nx 0 H0.size (H6_3.size + 1) := Nx.new hm0.size
        replace hd := hd.nw hs26
        replace va0 := va0.nw hs26
        replace vb0 := vb0.nw hs26
        replace hm0 := hm0.tr hs26
        have hz18 := hs26.size
        have hq26 := hqs.tr hs26
        refine ⟨.inr hq26, LH.narrow (SH2 := fun Hq => Nw H26 Hq) (fun Hq hq => hq26.tr hq) ?_⟩
        have hqn26 := Nw.refl H26
        refine LH.one (i := 1) (by kernel_rfl) ?_
        refine LO.z rfl (Z.litw _ ([(⟨[97], 1, d, sd⟩ : Fl)]) rfl inf26 rfl rfl rfl (by decide) (by decide) fFl_len fFl_one (rfl)) (Wd.u rfl) rfl rfl (fun v24 H24 r24 => ?_)
        obtain ⟨oa, hs24, ob24, hH24⟩ := r24
        have hzs24 : H24.size = H26.size + 1 := by rw [hH24]; simp
        have df55 := (DF.new (bf_hd.mono hm0.size) : DF _ (H26.size + 1))
        have dj56 : Dj (H9.size + 1) (H26.size + 1) := Dj.new va0.lt
        have dj57 : Dj (H5_3.size + 1) (H26.size + 1) := Dj.new vb0.lt
        have dj58 : Dj (H6_3.size + 1) (H26.size + 1) := Dj.new ob.le
        have nx59 : Nx 0 H0.size (H26.size + 1) := Nx.new hm0.size
        replace hd := hd.nw hs24
        replace va0 := va0.nw hs24
        replace vb0 := vb0.nw hs24
        replace ob := ob.nw hs24
        replace hm0 := hm0.tr hs24
        have hz19 := hs24.size
        have hq24 := hqn26.tr hs24
        refine ⟨.inr hq24, LH.narrow (SH2 := fun Hq => Nw H24 Hq) (fun Hq hq => hq24.tr hq) ?_⟩
        have hqn24 := Nw.refl H24
        refine LH.take 4 (by kernel_rfl) rfl (by kernel_rfl) (by kernel_rfl) (by kernel_rfl) (fun Hq hq => Y.assign rfl rfl) (Wd.u rfl) rfl rfl hqn24 ?_
        refine LH.take 5 (by kernel_rfl) rfl (by kernel_rfl) (by kernel_rfl) (by kernel_rfl) (fun Hq hq => Y.assign rfl rfl) (Wd.u rfl) rfl rfl hqn24 ?_
        refine LH.done (by kernel_rfl) ?_
        have hqe := hqn24
        refine hK10 _ _ ?_
        refine CW.cut (fun (s_ : (Value) × (Nat) × (List Fl) × (Value) × (Nat) × (List Fl)) => match s_ with | (va, ka, la, vb, kb, lb) => [(7, va), (8, vb)])
          (fun (s_ : (Value) × (Nat) × (List Fl) × (Value) × (Nat) × (List Fl)) (H : Heap) => match s_ with | (va, ka, la, vb, kb, lb) => (Ow ka 35 H fFl 3 va la) ∧ (Ow kb 35 H fFl 3 vb lb) ∧ (∀ x ∈ la, Nv sd d x) ∧ (∀ x ∈ lb, Nv sd d x) ∧ (la.length ≤ 2 ∧ lb.length ≤ 2) ∧ (∀ out, DetP (diffL la lb) out → out = []) ∧ (Nx (H26.size + 1) H24.size ka) ∧ (Nx (H6_3.size + 1) H24.size kb) ∧ (Dj ka kb) ∧ Mo (Ms [(H26.size + 1), (H6_3.size + 1)]) H24 H) (fun K19 hK19 hE19 => ?_) ?_
        ·
          have hcm19 : Mo (Ms [(H26.size + 1), (H6_3.size + 1)]) H24 H24 := Mo.refl _ _
          have nx_hcm19_oa := Nx.refl (H26.size + 1) H24.size
          have nx_hcm19_ob := Nx.refl (H6_3.size + 1) H24.size
          refine CW.seq (fun K20 hK20 hE20 => ?_)
          refine CW.region ?_
          refine LR.v (Y.move rfl rfl) (Wd.u rfl) rfl rfl ?_
          -- call selvage/selvagelaw16.within
          refine LR.call rfl Try.call20 rfl (Wd.u rfl) rfl rfl (within_ct _ _ w0 _ (by decide) hkw) (fun v28 H28 r28 => ?_)
          obtain ⟨k28, rfl, hk28, hs28⟩ := r28
          replace hd := hd.nw hs28
          replace va0 := va0.nw hs28
          replace vb0 := vb0.nw hs28
          replace ob := ob.nw hs28
          replace oa := oa.nw hs28
          replace hm0 := hm0.tr hs28
          replace hcm19 := hcm19.trN hs28
          have hz20 := hs28.size
          refine LR.nil ?_
          refine hK20 _ _ ?_
          refine CW.block (fun K21 hK21 hX21 hE21 => ?_)
          refine CW.seq (fun K22 hK22 hE22 => ?_)
          refine CW.region ?_
          refine LR.v (Y.eql rfl rfl rfl) (Wd.u rfl) rfl rfl ?_
          refine LR.v (Y.assign rfl rfl) (Wd.u rfl) rfl rfl ?_
          refine LR.nil ?_
          refine hK22 _ _ ?_
          refine CW.condp rfl (fun c29 => ?_) (fun c29 => ?_)
          ·
            refine CW.region ?_
            refine LR.v (Y.move rfl rfl) (Wd.u rfl) rfl rfl ?_
            refine LR.v (Y.move rfl rfl) (Wd.u rfl) rfl rfl ?_
            refine LR.v (Y.owAddr oa (0) rfl Try.runUnderlying26 Try.sizeOf35 rfl rfl (by first | rfl | omega) (by first | omega | (simp; omega) | (simp; done))) (Wd.u rfl) rfl rfl ?_
            refine LR.v (Y.fieldAddr (oa.pt (j := 0) (by first | omega | (simp; omega) | (simp; done))) rfl Try.runUnderlying35 rfl rfl Try.sizeOf3 (by decide) rfl) (Wd.u rfl) rfl rfl ?_
            refine LR.s (S.oww oa (0) 1 ((⟨[97], 3, d, sd⟩ : Fl)) rfl rfl rfl rfl Try.sizeOf3 (by first | omega | (simp; omega) | (simp; done)) (by decide) (rfl)) (Wd.u rfl) rfl (fun H10_4 r10_4 => ?_)
            obtain ⟨oa, hs10_4⟩ := r10_4
            replace hs10_4 := hs10_4.md
            replace hd := hd.upL hs10_4 (DFL.cons df55 DFL.nil)
            replace va0 := va0.upL hs10_4 (DL.cons dj56 DL.nil)
            replace vb0 := vb0.upL hs10_4 (DL.cons dj57 DL.nil)
            replace ob := ob.upL hs10_4 (DL.cons dj58 DL.nil)
            replace hm0 := (Mo.trL (ks := []) (hm0.mdn []) hs10_4 (MIL.cons (MI.app MI.z (nx59) (Nat.le_refl _)) MIL.nil)).nil
            replace hcm19 := hcm19.trL hs10_4 (MIL.cons (MI.app (MI.root (by simp)) (nx_hcm19_oa) (Nat.le_refl _)) MIL.nil)
            have hz21 := hs10_4.size
            refine LR.v (Y.owAddr ob (0) rfl Try.runUnderlying26 Try.sizeOf35 rfl rfl (by first | rfl | omega) (by first | omega | (simp; omega) | (simp; done))) (Wd.u rfl) rfl rfl ?_
            refine LR.v (Y.fieldAddr (ob.pt (j := 0) (by first | omega | (simp; omega) | (simp; done))) rfl Try.runUnderlying35 rfl rfl Try.sizeOf3 (by decide) rfl) (Wd.u rfl) rfl rfl ?_
            refine LR.s (S.oww ob (0) 1 ((⟨[98], 3, d, sd⟩ : Fl)) rfl rfl rfl rfl Try.sizeOf3 (by first | omega | (simp; omega) | (simp; done)) (by decide) (rfl)) (Wd.u rfl) rfl (fun H10_7 r10_7 => ?_)
            obtain ⟨ob, hs10_7⟩ := r10_7
            replace hs10_7 := hs10_7.md
            replace hd := hd.upL hs10_7 (DFL.cons df51 DFL.nil)
            replace va0 := va0.upL hs10_7 (DL.cons dj52 DL.nil)
            replace vb0 := vb0.upL hs10_7 (DL.cons dj53 DL.nil)
            replace oa := oa.upL hs10_7 (DL.cons dj58.symm DL.nil)
            replace hm0 := (Mo.trL (ks := []) (hm0.mdn []) hs10_7 (MIL.cons (MI.app MI.z (nx54) (Nat.le_refl _)) MIL.nil)).nil
            replace hcm19 := hcm19.trL hs10_7 (MIL.cons (MI.app (MI.root (by simp)) (nx_hcm19_ob) (Nat.le_refl _)) MIL.nil)
            have hz22 := hs10_7.size
            refine LR.nil ?_
            refine hK21 _ _ ?_
            refine QN.sub (hK19 (v24, (H26.size + 1), [⟨[97], 3, d, sd⟩], v26, (H6_3.size + 1), [⟨[98], 3, d, sd⟩]) _ ?_) ⟨rfl, rfl, trivial⟩
            exact ⟨oa, ob, nv1 (Nv.m1 (by decide) (by decide) (by decide)), nv1 (Nv.m1 (by decide) (by decide) (by decide)), (by simp), (fun out h => never0 (.inl rfl) h), nx_hcm19_oa, nx_hcm19_ob, dj58.symm, hcm19⟩
          ·
            refine CW.seq (fun K23 hK23 hE23 => ?_)
            refine CW.region ?_
            refine LR.v (Y.eql rfl rfl rfl) (Wd.u rfl) rfl rfl ?_
            refine LR.v (Y.assign rfl rfl) (Wd.u rfl) rfl rfl ?_
            refine LR.nil ?_
            refine hK23 _ _ ?_
            refine CW.condp rfl (fun c37 => ?_) (fun c37 => ?_)
            ·
              refine CW.region ?_
              refine LR.v (Y.move rfl rfl) (Wd.u rfl) rfl rfl ?_
              refine LR.v (Y.move rfl rfl) (Wd.u rfl) rfl rfl ?_
              refine LR.v (Y.owAddr oa (0) rfl Try.runUnderlying26 Try.sizeOf35 rfl rfl (by first | rfl | omega) (by first | omega | (simp; omega) | (simp; done))) (Wd.u rfl) rfl rfl ?_
              refine LR.v (Y.fieldAddr (oa.pt (j := 0) (by first | omega | (simp; omega) | (simp; done))) rfl Try.runUnderlying35 rfl rfl Try.sizeOf22 (by decide) rfl) (Wd.u rfl) rfl rfl ?_
              refine LR.s (S.oww oa (0) 2 ((⟨[97], 1, [], zSV⟩ : Fl)) rfl rfl rfl rfl Try.sizeOf22 (by first | omega | (simp; omega) | (simp; done)) (by decide) (rfl)) (Wd.u rfl) rfl (fun H12_4 r12_4 => ?_)
              obtain ⟨oa, hs12_4⟩ := r12_4
              replace hs12_4 := hs12_4.md
              replace hd := hd.upL hs12_4 (DFL.cons df55 DFL.nil)
              replace va0 := va0.upL hs12_4 (DL.cons dj56 DL.nil)
              replace vb0 := vb0.upL hs12_4 (DL.cons dj57 DL.nil)
              replace ob := ob.upL hs12_4 (DL.cons dj58 DL.nil)
              replace hm0 := (Mo.trL (ks := []) (hm0.mdn []) hs12_4 (MIL.cons (MI.app MI.z (nx59) (Nat.le_refl _)) MIL.nil)).nil
              replace hcm19 := hcm19.trL hs12_4 (MIL.cons (MI.app (MI.root (by simp)) (nx_hcm19_oa) (Nat.le_refl _)) MIL.nil)
              have hz23 := hs12_4.size
              refine LR.v (Y.owAddr ob (0) rfl Try.runUnderlying26 Try.sizeOf35 rfl rfl (by first | rfl | omega) (by first | omega | (simp; omega) | (simp; done))) (Wd.u rfl) rfl rfl ?_
              refine LR.v (Y.fieldAddr (ob.pt (j := 0) (by first | omega | (simp; omega) | (simp; done))) rfl Try.runUnderlying35 rfl rfl Try.sizeOf22 (by decide) rfl) (Wd.u rfl) rfl rfl ?_
              refine LR.s (S.oww ob (0) 2 ((⟨[98], 1, [], zSV⟩ : Fl)) rfl rfl rfl rfl Try.sizeOf22 (by first | omega | (simp; omega) | (simp; done)) (by decide) (rfl)) (Wd.u rfl) rfl (fun H12_7 r12_7 => ?_)
              obtain ⟨ob, hs12_7⟩ := r12_7
              replace hs12_7 := hs12_7.md
              replace hd := hd.upL hs12_7 (DFL.cons df51 DFL.nil)
              replace va0 := va0.upL hs12_7 (DL.cons dj52 DL.nil)
              replace vb0 := vb0.upL hs12_7 (DL.cons dj53 DL.nil)
              replace oa := oa.upL hs12_7 (DL.cons dj58.symm DL.nil)
              replace hm0 := (Mo.trL (ks := []) (hm0.mdn []) hs12_7 (MIL.cons (MI.app MI.z (nx54) (Nat.le_refl _)) MIL.nil)).nil
              replace hcm19 := hcm19.trL hs12_7 (MIL.cons (MI.app (MI.root (by simp)) (nx_hcm19_ob) (Nat.le_refl _)) MIL.nil)
              have hz24 := hs12_7.size
              refine LR.nil ?_
              refine hK21 _ _ ?_
              refine QN.sub (hK19 (v24, (H26.size + 1), [⟨[97], 1, [], zSV⟩], v26, (H6_3.size + 1), [⟨[98], 1, [], zSV⟩]) _ ?_) ⟨rfl, rfl, trivial⟩
              exact ⟨oa, ob, nv1 (Nv.m0 (by decide) (by decide) (by decide)), nv1 (Nv.m0 (by decide) (by decide) (by decide)), (by simp), (fun out h => never0 (.inr rfl) h), nx_hcm19_oa, nx_hcm19_ob, dj58.symm, hcm19⟩
            ·
              refine CW.seq (fun K24 hK24 hE24 => ?_)
              refine CW.region ?_
              refine LR.v (Y.eql rfl rfl rfl) (Wd.u rfl) rfl rfl ?_
              refine LR.v (Y.assign rfl rfl) (Wd.u rfl) rfl rfl ?_
              refine LR.nil ?_
              refine hK24 _ _ ?_
              refine CW.condp rfl (fun c45 => ?_) (fun c45 => ?_)
              ·
                refine CW.region ?_
                refine LR.v (Y.loadN va0.pt rfl Try.isAgg35 Try.sizeOf35 (rfl) rfl) (Wd.u rfl) rfl rfl ?_
                refine LR.v (Y.loadN vb0.pt rfl Try.isAgg35 Try.sizeOf35 (rfl) rfl) (Wd.u rfl) rfl rfl ?_
                refine LR.z (Z.litw _ ([(⟨[97], 1, d, sd⟩ : Fl), (⟨[98], 1, d, sd⟩ : Fl)]) rfl inf26 rfl rfl rfl (by decide) (by decide) fFl_len fFl_one (rfl)) (Wd.u rfl) rfl rfl (fun v49 H49 r49 => ?_)
                obtain ⟨ob, hs49, ob49, hH49⟩ := r49
                have hzs49 : H49.size = H28.size + 1 := by rw [hH49]; simp
                have df60 := (DF.new (bf_hd.mono hm0.size) : DF _ (H28.size + 1))
                have dj61 : Dj (H9.size + 1) (H28.size + 1) := Dj.new va0.lt
                have dj62 : Dj (H5_3.size + 1) (H28.size + 1) := Dj.new vb0.lt
                have dj63 : Dj (H26.size + 1) (H28.size + 1) := Dj.new oa.le
                have nx64 : Nx 0 H0.size (H28.size + 1) := Nx.new hm0.size
                have nx65 : Nx 0 H24.size (H28.size + 1) := Nx.new hcm19.size
                replace hd := hd.nw hs49
                replace va0 := va0.nw hs49
                replace vb0 := vb0.nw hs49
                replace oa := oa.nw hs49
                replace hm0 := hm0.tr hs49
                replace hcm19 := hcm19.trN hs49
                have hz25 := hs49.size
                refine LR.v (Y.assign rfl rfl) (Wd.u rfl) rfl rfl ?_
                refine LR.nil ?_
                refine hK21 _ _ ?_
                refine QN.sub (hK19 (v24, (H26.size + 1), [(⟨[97], 1, d, sd⟩ : Fl)], v49, (H28.size + 1), [(⟨[97], 1, d, sd⟩ : Fl), (⟨[98], 1, d, sd⟩ : Fl)]) _ ?_) ⟨rfl, rfl, trivial⟩
                exact ⟨oa, ob, nv1 (Nv.m1 (by decide) (by decide) (by decide)), nv2 (Nv.m1 (by decide) (by decide) (by decide)) (Nv.m1 (by decide) (by decide) (by decide)), (by simp), (fun out h => never2 h), nx_hcm19_oa, (Nx.z (nx65)), dj63, hcm19⟩
              ·
                refine CW.seq (fun K25 hK25 hE25 => ?_)
                refine CW.region ?_
                refine LR.v (Y.eql rfl rfl rfl) (Wd.u rfl) rfl rfl ?_
                refine LR.v (Y.assign rfl rfl) (Wd.u rfl) rfl rfl ?_
                refine LR.nil ?_
                refine hK25 _ _ ?_
                refine CW.condp rfl (fun c50 => ?_) (fun c50 => ?_)
                ·
                  refine CW.region ?_
                  refine LR.v (Y.loadN va0.pt rfl Try.isAgg35 Try.sizeOf35 (rfl) rfl) (Wd.u rfl) rfl rfl ?_
                  refine LR.v (Y.loadN vb0.pt rfl Try.isAgg35 Try.sizeOf35 (rfl) rfl) (Wd.u rfl) rfl rfl ?_
                  refine LR.z (Z.litw _ ([(⟨[97], 1, d, sd⟩ : Fl), (⟨[98], 1, d, sd⟩ : Fl)]) rfl inf26 rfl rfl rfl (by decide) (by decide) fFl_len fFl_one (rfl)) (Wd.u rfl) rfl rfl (fun v54 H54 r54 => ?_)
                  obtain ⟨oa, hs54, ob54, hH54⟩ := r54
                  have hzs54 : H54.size = H28.size + 1 := by rw [hH54]; simp
                  have df66 := (DF.new (bf_hd.mono hm0.size) : DF _ (H28.size + 1))
                  have dj67 : Dj (H9.size + 1) (H28.size + 1) := Dj.new va0.lt
                  have dj68 : Dj (H5_3.size + 1) (H28.size + 1) := Dj.new vb0.lt
                  have dj69 : Dj (H6_3.size + 1) (H28.size + 1) := Dj.new ob.le
                  have nx70 : Nx 0 H0.size (H28.size + 1) := Nx.new hm0.size
                  have nx71 : Nx 0 H24.size (H28.size + 1) := Nx.new hcm19.size
                  replace hd := hd.nw hs54
                  replace va0 := va0.nw hs54
                  replace vb0 := vb0.nw hs54
                  replace ob := ob.nw hs54
                  replace hm0 := hm0.tr hs54
                  replace hcm19 := hcm19.trN hs54
                  have hz26 := hs54.size
                  refine LR.v (Y.assign rfl rfl) (Wd.u rfl) rfl rfl ?_
                  refine LR.nil ?_
                  refine hK21 _ _ ?_
                  refine QN.sub (hK19 (v54, (H28.size + 1), [(⟨[97], 1, d, sd⟩ : Fl), (⟨[98], 1, d, sd⟩ : Fl)], v26, (H6_3.size + 1), [(⟨[98], 1, d, sd⟩ : Fl)]) _ ?_) ⟨rfl, rfl, trivial⟩
                  exact ⟨oa, ob, nv2 (Nv.m1 (by decide) (by decide) (by decide)) (Nv.m1 (by decide) (by decide) (by decide)), nv1 (Nv.m1 (by decide) (by decide) (by decide)), (by simp), (fun out h => never3 h), (Nx.z (nx71)), nx_hcm19_ob, dj69.symm, hcm19⟩
                ·
                  exfalso; omega
        ·
          rintro ⟨va, ka, la, vb, kb, lb⟩ Hcut0 hIcut0
          obtain ⟨oa, ob, hla, hlb, hll, hdt, nxl_oa, nxl_ob, dj_oa_ob, hlmcut0⟩ := hIcut0
          have df72 := DF.app (df55) (bf_hd.mono hm0.size) nxl_oa
          have dj73 : Dj (H9.size + 1) ka := Dj.app (dj56) va0.lt nxl_oa
          have dj74 : Dj (H5_3.size + 1) ka := Dj.app (dj57) vb0.lt nxl_oa
          have nx75 : Nx 0 H0.size ka := Nx.tr (nx59) nxl_oa hm0.size
          have df76 := DF.app (df51) (bf_hd.mono hm0.size) nxl_ob
          have dj77 : Dj (H9.size + 1) kb := Dj.app (dj52) va0.lt nxl_ob
          have dj78 : Dj (H5_3.size + 1) kb := Dj.app (dj53) vb0.lt nxl_ob
          have nx79 : Nx 0 H0.size kb := Nx.tr (nx54) nxl_ob hm0.size
          replace hd := hd.upL hlmcut0 (DFL.cons df55 (DFL.cons df51 DFL.nil))
          replace va0 := va0.upL hlmcut0 (DL.cons dj56 (DL.cons dj52 DL.nil))
          replace vb0 := vb0.upL hlmcut0 (DL.cons dj57 (DL.cons dj53 DL.nil))
          replace hm0 := (Mo.trL (ks := []) (hm0.mdn []) hlmcut0 (MIL.cons (MI.app MI.z (nx59) (Nat.le_refl _)) (MIL.cons (MI.app MI.z (nx54) (Nat.le_refl _)) MIL.nil))).nil
          have hz27 := hlmcut0.size
          have hle_oa := oa.le
          have hle_ob := ob.le
          have dj80 := dj_oa_ob
          have nx81 := nxl_oa
          have nx82 := nxl_ob
          refine CW.seq (fun K26 hK26 hE26 => ?_)
          refine CW.region ?_
          refine LR.v (Y.move rfl rfl) (Wd.u rfl) rfl rfl ?_
          refine LR.v (Y.move rfl rfl) (Wd.u rfl) rfl rfl ?_
          -- call selvage/selvageref15.Diff
          refine LR.call rfl Try.call14 rfl (Wd.u rfl) rfl rfl (diff_ct va vb la lb w0 _ oa.rd.any ob.rd.any (fun x h => (hla x h).R hd) (fun x h => (hlb x h).R hd) (by omega) (by omega)) (fun v57 H57 r57 => ?_)
          obtain ⟨vc_, kc, rfl, oc, hkc, hdl, hs57⟩ := r57
          have df83 := DF.app (DF.z) (bf_hd.mono hm0.size) hkc
          have dj84 : Dj (H9.size + 1) kc := Dj.app (Dj.z) va0.lt hkc
          have dj85 : Dj (H5_3.size + 1) kc := Dj.app (Dj.z) vb0.lt hkc
          have dj86 : Dj kb kc := Dj.app (Dj.z) ob.le hkc
          have dj87 : Dj ka kc := Dj.app (Dj.z) oa.le hkc
          have nx88 : Nx 0 H0.size kc := Nx.tr (Nx.refl 0 _) hkc hm0.size
          replace hd := hd.nw hs57
          replace va0 := va0.nw hs57
          replace vb0 := vb0.nw hs57
          replace ob := ob.nw hs57
          replace oa := oa.nw hs57
          replace hm0 := hm0.tr hs57
          have hz28 := hs57.size
          have hle_oc := oc.le
          -- call selvage/rename.Detect
          refine LR.call rfl Try.call17 rfl (Wd.u rfl) rfl rfl (detect_ct v57 (diffL la lb) w0 _ oc.rd.any (fun c hc => (diffL_all (Nv.z sd d) la lb hla hlb c hc).1.R hd) (fun c hc => (diffL_all (Nv.z sd d) la lb hla hlb c hc).2.R hd) (by omega) (fun c hc => ⟨(diffL_all (Nv.z sd d) la lb hla hlb c hc).1.b (by omega), (diffL_all (Nv.z sd d) la lb hla hlb c hc).2.b (by omega)⟩)) (fun v58 H58 r58 => ?_)
          obtain ⟨vd_, kd, out, rfl, od, hkd, hdet, hs58⟩ := r58
          have df89 := DF.app (DF.z) (bf_hd.mono hm0.size) hkd
          have dj90 : Dj (H9.size + 1) kd := Dj.app (Dj.z) va0.lt hkd
          have dj91 : Dj (H5_3.size + 1) kd := Dj.app (Dj.z) vb0.lt hkd
          have dj92 : Dj kb kd := Dj.app (Dj.z) ob.le hkd
          have dj93 : Dj ka kd := Dj.app (Dj.z) oa.le hkd
          have dj94 : Dj kc kd := Dj.app (Dj.z) oc.le hkd
          have nx95 : Nx 0 H0.size kd := Nx.tr (Nx.refl 0 _) hkd hm0.size
          replace hd := hd.nw hs58
          replace va0 := va0.nw hs58
          replace vb0 := vb0.nw hs58
          replace ob := ob.nw hs58
          replace oa := oa.nw hs58
          replace oc := oc.nw hs58
          replace hm0 := hm0.tr hs58
          have hz29 := hs58.size
          have hle_od := od.le
          have hout := hdt out hdet
          subst hout
          refine LR.v (Y.len od.rd rfl Try.runUnderlying31 rfl) (Wd.u rfl) rfl rfl ?_
          refine LR.v ((Y.eql rfl rfl rfl).isT (rfl)) (Wd.u rfl) rfl rfl ?_
          refine LR.v (Y.assign rfl rfl) (Wd.u rfl) rfl rfl ?_
          refine LR.nil ?_
          refine hK26 _ _ ?_
          refine CW.ret (hret .ret (.inr rfl) _ _ _ (res1 rfl rfl) ?_)
          exact ⟨rfl, hm0⟩

end Go.Proofs.Ytclhnkmkejijjaa.RenI
