/-
  The disk: a new one, what is told of it.
-/
import Derived.Test.YtfbfjhppppoilaaDoorSimD
namespace Go.Proofs.YtfbfjhppppoilaaDoor.SimE
open Go.Proofs.YtfbfjhppppoilaaDoor.E Go.RowKit Go.Proofs.YtfbfjhppppoilaaDoor.SimA Go.Proofs.YtfbfjhppppoilaaDoor.SimB Go.Proofs.YtfbfjhppppoilaaDoor.SimC Go.Proofs.YtfbfjhppppoilaaDoor.SimD
set_option maxRecDepth 20000
set_option linter.unusedVariables false
set_option linter.unusedSimpArgs false
set_option linter.unusedSectionVars false

section
variable {H : Heap} {b mb : Nat}
theorem PDk.new (cap most : Nat) (hv : Var 64 H b [.int .i64 cap, .int .i64 most, .map (some mb), .int .i64 0, .int .i64 0, .bool false]) (hm : Mp H Str ptr mb ([] : List (Pth × Nat))) (hc : cap ≤ 9223372036854775807) (hk : most ≤ 9223372036854775807) (hne : b ≠ mb) :
    PDk [b + 1, mb + 1] ⟨upr (upr (fun _ => .out) mb .dirs) b .fs, [], mb, [], 0⟩ H b (Dk.empty cap most) where
  hK := hK_upr (hK_upr (K := []) (ρ := fun _ => .out) (fun c => by simp) (by simp)) (by simp)
  lt := lt_upr (lt_upr (H := H) (fun c h => absurd rfl h) (Nat.le_refl _) hm.lt) (Nat.le_refl _) hv.lt
  rb := upr_self
  vb := hv
  lvD := fun _ => rfl
  lvB := by simp
  capB := hc
  mostB := hk
  rm := by show upr (upr (fun _ => .out) mb .dirs) b .fs mb = _; rw [upr_ne (Ne.symm hne), upr_self]
  hm := hm
  dirs := fun p db e => (by cases e)
  abs := fun p _ => ⟨fun q _ => ⟨rfl, rfl⟩, rfl⟩
  len := rfl
  fil := fun i hi => (by simp [Dk.empty] at hi)
  ids := ⟨fun p i e => (by cases e), fun p i e => (by cases e), fun c hc => (by cases hc)⟩
  dml := Nat.le_refl _
end

theorem new_ct (cap most : Nat) (w0 : World) (H0 : Heap)
    (hc : cap ≤ 9223372036854775807) (hk : most ≤ 9223372036854775807) :
    Ct Tryd.prog w0 16 #[.int .i64 (cap : Int), .int .i64 (most : Int)] H0 (fun r H2 => ∃ K : List Nat, ∃ g : Gh, ∃ b : Nat, r = .tuple #[ptr b, .int .i64 0] ∧ (PDk K g H2 b (Dk.empty cap most)) ∧ (NxK [] H0.size K) ∧ Nw H0 H2) := by
  refine Ct.enter (args := [.int .i64 (cap : Int), .int .i64 (most : Int)]) Tryd.func16 rfl rfl rfl ?_
  intro Q0 hret
  have hm0 : Nw H0 H0 := Mo.refl _ _
  refine CW.seq (fun K1 hK1 hE1 => ?_)
  refine CW.region ?_
  refine LR.v (Y.assign rfl rfl) (Wd.u rfl) rfl rfl ?_
  refine LR.v (Y.assign rfl rfl) (Wd.u rfl) rfl rfl ?_
  refine LR.nil ?_
  refine hK1 _ _ ?_
  refine CW.seq (fun K2 hK2 hE2 => ?_)
  refine CW.seq (fun K3 hK3 hE3 => ?_)
  refine CW.region ?_
  refine LR.v (Y.move rfl rfl) (Wd.u rfl) rfl rfl ?_
  refine LR.v ((Y.lss rfl rfl rfl).isF (by omega)) (Wd.u rfl) rfl rfl ?_
  refine LR.v (Y.move rfl rfl) (Wd.u rfl) rfl rfl ?_
  refine LR.v (Y.move rfl rfl) (Wd.g rfl rfl rfl) rfl rfl ?_
  refine LR.v ((Y.lss rfl rfl rfl).isF (by omega)) (Wd.g rfl rfl rfl) rfl rfl ?_
  refine LR.v (Y.pick_f rfl rfl rfl) (Wd.u rfl) rfl rfl ?_
  refine LR.nil ?_
  refine hK3 _ _ ?_
  refine CW.cond_f rfl ?_
  refine CW.skip ?_
  refine hK2 _ _ ?_
  refine CW.seq (fun K4 hK4 hE4 => ?_)
  refine CW.region ?_
  refine LR.v (Y.move rfl rfl) (Wd.u rfl) rfl rfl ?_
  refine LR.v (Y.move rfl rfl) (Wd.u rfl) rfl rfl ?_
  refine LR.z (Z.makeMp Str ptr rfl) (Wd.u rfl) rfl rfl (fun v14 H14 r14 => ?_)
  obtain ⟨rfl, hmp, hs14, ob14, hH14⟩ := r14
  have hzs14 : H14.size = H0.size + 1 := by rw [hH14]; simp
  have nx1 : Nx 0 H0.size (H0.size + 1) := Nx.new hm0.size
  replace hm0 := hm0.tr hs14
  have hz1 := hs14.size
  have hlt_hmp := hmp.lt
  refine LR.v (Y.build (v := .agg #[.int .i64 cap, .int .i64 most, .map (some H0.size), .int .i64 0, .int .i64 0, .bool false]) rfl rfl (by intro w; kernel_rfl)) (Wd.u rfl) rfl rfl ?_
  refine LR.z (Z.boxv rfl rfl) (Wd.u rfl) rfl rfl (fun v16 H16 r16 => ?_)
  obtain ⟨rfl, hvb, hs16, ob16, hH16⟩ := r16
  have hzs16 : H16.size = H14.size + 1 := by rw [hH16]; simp
  have dj2 : Dj (H0.size + 1) (H14.size + 1) := Dj.new hmp.lt
  have nx3 : Nx 0 H0.size (H14.size + 1) := Nx.new hm0.size
  replace hmp := hmp.nw hs16
  replace hm0 := hm0.tr hs16
  have hz2 := hs16.size
  replace hvb : Var 64 H16 H14.size ([.int .i64 cap, .int .i64 most, .map (some H0.size), .int .i64 0, .int .i64 0, .bool false]) := hvb
  have dj4 : DL (H14.size + 1) ((H0.size + 1) :: []) := DL.cons (dj2.symm) (DL.nil)
  have nx5 := NxK.cons (nx1) (NxK.refl [] _)
  have nx6 := NxK.cons (nx3) (nx5)
  have hf := PDk.new cap most hvb hmp hc hk (by omega)
  have hbk_hf := hf.bk
  refine LR.v (Y.assign rfl rfl) (Wd.u rfl) rfl rfl ?_
  refine LR.v (Y.assign rfl rfl) (Wd.u rfl) rfl rfl ?_
  refine LR.nil ?_
  refine hK4 _ _ ?_
  refine CW.ret (hret .ret (.inr rfl) _ _ _ (res2 rfl rfl rfl) ?_)
  exact ⟨_, _, _, rfl, hf, nx6, hm0⟩

theorem newN_ct (a m : Int) (w0 : World) (H0 : Heap)
    (hn : a < 0 ∨ m < 0) :
    Ct Tryd.prog w0 16 #[.int .i64 a, .int .i64 m] H0 (fun r H2 => r = .tuple #[.pointer none, .int .i64 1] ∧ Nw H0 H2) := by
  refine Ct.enter (args := [.int .i64 a, .int .i64 m]) Tryd.func16 rfl rfl rfl ?_
  intro Q0 hret
  have hm0 : Nw H0 H0 := Mo.refl _ _
  refine CW.seq (fun K1 hK1 hE1 => ?_)
  refine CW.region ?_
  refine LR.v (Y.assign rfl rfl) (Wd.u rfl) rfl rfl ?_
  refine LR.v (Y.assign rfl rfl) (Wd.u rfl) rfl rfl ?_
  refine LR.nil ?_
  refine hK1 _ _ ?_
  refine CW.seq (fun K2 hK2 hE2 => ?_)
  refine CW.seq (fun K3 hK3 hE3 => ?_)
  refine CW.region ?_
  refine LR.v (Y.move rfl rfl) (Wd.u rfl) rfl rfl ?_
  refine LR.v (Y.lss rfl rfl rfl) (Wd.u rfl) rfl rfl ?_
  refine LR.v (Y.move rfl rfl) (Wd.u rfl) rfl rfl ?_
  refine LR.splitp (d := 8) rfl (fun g8 => ?_) (fun g8 => ?_)
  ·
    refine LR.gs rfl rfl rfl rfl rfl rfl ?_
    refine LR.gs rfl rfl rfl rfl rfl rfl ?_
    refine LR.v (Y.cast (v2 := .bool true) (Y.pick_t rfl rfl rfl) (by first | rfl | (congr 1; simp; omega))) (Wd.u rfl) rfl rfl ?_
    refine LR.nil ?_
    refine hK3 _ _ ?_
    refine CW.cond_t rfl ?_
    refine CW.seq (fun K4 hK4 hE4 => ?_)
    refine CW.region ?_
    refine LR.v (Y.assign rfl rfl) (Wd.u rfl) rfl rfl ?_
    refine LR.v (Y.assign rfl rfl) (Wd.u rfl) rfl rfl ?_
    refine LR.nil ?_
    refine hK4 _ _ ?_
    refine CW.ret (hE2 .ret nofun _ _ (hret .ret (.inr rfl) _ _ _ (res2 rfl rfl rfl) ?_))
    exact ⟨rfl, hm0⟩
  ·
    refine LR.v (Y.move rfl rfl) (Wd.g rfl rfl rfl) rfl rfl ?_
    refine LR.v (Y.lss rfl rfl rfl) (Wd.g rfl rfl rfl) rfl rfl ?_
    refine LR.v (Y.cast (v2 := .bool true) (Y.pick_f rfl rfl rfl) (by first | rfl | (congr 1; simp; omega))) (Wd.u rfl) rfl rfl ?_
    refine LR.nil ?_
    refine hK3 _ _ ?_
    refine CW.cond_t rfl ?_
    refine CW.seq (fun K5 hK5 hE5 => ?_)
    refine CW.region ?_
    refine LR.v (Y.assign rfl rfl) (Wd.u rfl) rfl rfl ?_
    refine LR.v (Y.assign rfl rfl) (Wd.u rfl) rfl rfl ?_
    refine LR.nil ?_
    refine hK5 _ _ ?_
    refine CW.ret (hE2 .ret nofun _ _ (hret .ret (.inr rfl) _ _ _ (res2 rfl rfl rfl) ?_))
    exact ⟨rfl, hm0⟩

theorem read_ct (mx_ : Int) (K : List Nat) (g : Gh) (b : Nat) (D : Dk) (p : Pth) (w0 : World) (H0 : Heap)
    (mx : MX mx_ H0) (bf_mx : BF (fun b => b = 0) H0.size) (hf : PDk K g H0 b D) (hl : p.length ≤ 4294967280) (hB : ∀ i, (fget D.fs i).now.length ≤ 1099511627776) :
    Ct Tryd.prog w0 18 #[ptr b, Str p] H0 (fun r H2 => ∃ s : SV, ∃ k : Nat, r = .tuple #[s.v, .int .i64 (D.readE p : Int)] ∧ (Ow k 5 H2 fB 1 s.v (D.readL p)) ∧ (Nx 0 H0.size k) ∧ Nw H0 H2) := by
  refine Ct.enter (args := [ptr b, Str p]) Tryd.func18 rfl rfl rfl ?_
  intro Q0 hret
  have hm0 : Nw H0 H0 := Mo.refl _ _
  have nx_hm0_hf := NxK.refl K H0.size
  have hbk_hf := hf.bk
  refine CW.seq (fun K1 hK1 hE1 => ?_)
  refine CW.region ?_
  refine LR.v (Y.assign rfl rfl) (Wd.u rfl) rfl rfl ?_
  refine LR.v (Y.assign rfl rfl) (Wd.u rfl) rfl rfl ?_
  refine LR.nil ?_
  refine hK1 _ _ ?_
  refine CW.seq (fun K2 hK2 hE2 => ?_)
  refine CW.seq (fun K3 hK3 hE3 => ?_)
  refine CW.region ?_
  refine LR.v (Y.move rfl rfl) (Wd.u rfl) rfl rfl ?_
  refine LR.v (Y.nilCheck rfl rfl) (Wd.u rfl) rfl rfl ?_
  refine LR.v (Y.fieldAddr hf.vb.pt rfl Tryd.runUnderlying64 rfl rfl Tryd.sizeOf4 (by decide) rfl) (Wd.u rfl) rfl rfl ?_
  refine LR.v (Y.load1 (hf.vb.pt.drop 5) rfl Tryd.isAgg4 rfl) (Wd.u rfl) rfl rfl ?_
  refine LR.nil ?_
  refine hK3 _ _ ?_
  refine CW.cond rfl (fun c11 => ?_) (fun c11 => ?_)
  ·
    refine CW.seq (fun K4 hK4 hE4 => ?_)
    refine CW.region ?_
    refine LR.v (Y.assign rfl rfl) (Wd.u rfl) rfl rfl ?_
    refine LR.v (Y.assign rfl rfl) (Wd.u rfl) rfl rfl ?_
    refine LR.nil ?_
    refine hK4 _ _ ?_
    refine CW.ret (hE2 .ret nofun _ _ (hret .ret (.inr rfl) _ _ _ (res2 rfl rfl rfl) ?_))
    have hE : D.readE p = 11 := by unfold Dk.readE; rw [if_pos c11]
    have hL : D.readL p = [] := by unfold Dk.readL; rw [if_neg (by rw [hE]; omega)]
    exact ⟨⟨none, 0, 0⟩, 0, by rw [hE]; rfl, by rw [hL]; exact Ow.nil fB_len fB_one, Nx.refl _ _, hm0⟩
  ·
    refine CW.skip ?_
    refine hK2 _ _ ?_
    refine CW.seq (fun K5 hK5 hE5 => ?_)
    refine CW.region ?_
    refine LR.v (Y.move rfl rfl) (Wd.u rfl) rfl rfl ?_
    refine LR.v (Y.move rfl rfl) (Wd.u rfl) rfl rfl ?_
    -- call (*selvage/simfs.FS).find
    refine LR.call rfl Tryd.call36 rfl (Wd.u rfl) rfl rfl (find_ct mx_ K g b D p w0 _ mx (bf_mx.mono (by omega)) hf hl) (fun v15 H15 r15 => ?_)
    obtain ⟨rfl, hs15⟩ := r15
    replace mx := mx.nw hs15
    replace hf := hf.nw hs15
    replace hm0 := hm0.tr hs15
    have hz1 := hs15.size
    refine LR.v (Y.move rfl rfl) (Wd.u rfl) rfl rfl ?_
    refine LR.v (Y.extract rfl rfl rfl) (Wd.u rfl) rfl rfl ?_
    refine LR.v (Y.extract rfl rfl rfl) (Wd.u rfl) rfl rfl ?_
    refine LR.v (Y.assign rfl rfl) (Wd.u rfl) rfl rfl ?_
    refine LR.v (Y.assign rfl rfl) (Wd.u rfl) rfl rfl ?_
    refine LR.nil ?_
    refine hK5 _ _ ?_
    refine CW.seq (fun K6 hK6 hE6 => ?_)
    refine CW.seq (fun K7 hK7 hE7 => ?_)
    refine CW.region ?_
    refine LR.v (Y.move rfl rfl) (Wd.u rfl) rfl rfl ?_
    refine LR.v (Y.neq rfl rfl rfl) (Wd.u rfl) rfl rfl ?_
    refine LR.nil ?_
    refine hK7 _ _ ?_
    refine CW.condp rfl (fun c19 => ?_) (fun c19 => ?_)
    ·
      refine CW.seq (fun K8 hK8 hE8 => ?_)
      refine CW.region ?_
      refine LR.v (Y.move rfl rfl) (Wd.u rfl) rfl rfl ?_
      refine LR.v (Y.assign rfl rfl) (Wd.u rfl) rfl rfl ?_
      refine LR.v (Y.assign rfl rfl) (Wd.u rfl) rfl rfl ?_
      refine LR.nil ?_
      refine hK8 _ _ ?_
      refine CW.ret (hE6 .ret nofun _ _ (hret .ret (.inr rfl) _ _ _ (res2 rfl rfl rfl) ?_))
      have hE : D.readE p = D.look p := by unfold Dk.readE; rw [if_neg (by simpa using c11)]
      have hL : D.readL p = [] := by unfold Dk.readL; rw [if_neg (by rw [hE]; omega)]
      exact ⟨⟨none, 0, 0⟩, 0, by rw [hE]; rfl, by rw [hL]; exact Ow.nil fB_len fB_one, Nx.refl _ _, hm0⟩
    ·
      have hk0 : D.look p = 0 := by omega
      obtain ⟨i, hi⟩ : ∃ i, mget D.now p = some i := by
        cases hq : mget D.now p with
        | some i => exact ⟨i, rfl⟩
        | none => exfalso; unfold Dk.look at hk0; rw [hq] at hk0; by_cases hn : nameB p = true <;> simp [hn] at hk0
      obtain ⟨nv, sv, wv, kw, lw, hfi⟩ := hf.fil i (hf.ids.1 p i hi)
      refine CW.skip ?_
      refine hK6 _ _ ?_
      refine CW.seq (fun K9 hK9 hE9 => ?_)
      refine CW.region ?_
      refine LR.v (Y.cast (v2 := fvl g.fb i) (Y.move rfl rfl) (by rw [if_pos hk0, hi]; rfl)) (Wd.u rfl) rfl rfl ?_
      refine LR.v (Y.nilCheck rfl rfl) (Wd.u rfl) rfl rfl ?_
      refine LR.v (Y.fieldAddr hfi.vf.pt rfl Tryd.runUnderlying76 rfl rfl Tryd.sizeOf73 (by decide) rfl) (Wd.u rfl) rfl rfl ?_
      refine LR.v (Y.fieldAddr (hfi.vf.pt.drop 0) rfl Tryd.runUnderlying73 rfl rfl Tryd.sizeOf25 (by decide) rfl) (Wd.u rfl) rfl rfl ?_
      refine LR.v (Y.load1 ((hfi.vf.pt.drop 0).drop 0) rfl Tryd.isAgg25 rfl) (Wd.u rfl) rfl rfl ?_
      -- call slices.Clone[[]byte,byte]
      refine LR.call rfl Tryd.call37 rfl (Wd.u rfl) rfl rfl (bclone_ct _ (fget D.fs i).now w0 _ hfi.hn.any (by have := hB i; omega)) (fun v26 H26 r26 => ?_)
      obtain ⟨s26, k26, rfl, ow26, hk26, hs26⟩ := r26
      have df1 := DF.app (DF.z) (bf_mx.mono hm0.size) hk26
      have dj2 : DL k26 K := DL.app2 (DL.zK) hf.bk hk26
      have nx3 : Nx 0 H0.size k26 := Nx.tr (Nx.refl 0 _) hk26 hm0.size
      replace mx := mx.nw hs26
      replace hf := hf.nw hs26
      replace hm0 := hm0.tr hs26
      have hz2 := hs26.size
      have hle_ow26 := ow26.le
      refine LR.v (Y.assign rfl rfl) (Wd.u rfl) rfl rfl ?_
      refine LR.v (Y.assign rfl rfl) (Wd.u rfl) rfl rfl ?_
      refine LR.nil ?_
      refine hK9 _ _ ?_
      refine CW.ret (hret .ret (.inr rfl) _ _ _ (res2 rfl rfl rfl) ?_)
      have hE : D.readE p = 0 := by unfold Dk.readE; rw [if_neg (by simpa using c11)]; exact hk0
      have hL : D.readL p = (fget D.fs i).now := by unfold Dk.readL Dk.wasL; rw [if_pos hE, hi]
      exact ⟨s26, k26, by rw [hE]; rfl, by rw [hL]; exact ow26, nx3, hm0⟩

theorem ops_ct (K : List Nat) (g : Gh) (b : Nat) (D : Dk) (w0 : World) (H0 : Heap)
    (hf : PDk K g H0 b D) :
    Ct Tryd.prog w0 30 #[ptr b] H0 (fun r H2 => r = .int .i64 (D.ops : Int) ∧ Nw H0 H2) := by
  refine Ct.enter (args := [ptr b]) Tryd.func30 rfl rfl rfl ?_
  intro Q0 hret
  have hm0 : Nw H0 H0 := Mo.refl _ _
  have nx_hm0_hf := NxK.refl K H0.size
  have hbk_hf := hf.bk
  refine CW.seq (fun K1 hK1 hE1 => ?_)
  refine CW.region ?_
  refine LR.v (Y.assign rfl rfl) (Wd.u rfl) rfl rfl ?_
  refine LR.nil ?_
  refine hK1 _ _ ?_
  refine CW.seq (fun K2 hK2 hE2 => ?_)
  refine CW.region ?_
  refine LR.v (Y.move rfl rfl) (Wd.u rfl) rfl rfl ?_
  refine LR.v (Y.nilCheck rfl rfl) (Wd.u rfl) rfl rfl ?_
  refine LR.v (Y.fieldAddr hf.vb.pt rfl Tryd.runUnderlying64 rfl rfl Tryd.sizeOf62 (by decide) rfl) (Wd.u rfl) rfl rfl ?_
  -- call (*sync/atomic.Int64).Load
  refine LR.call rfl Tryd.call49 rfl (Wd.u rfl) rfl rfl (load_ct _ b _ (D.ops : Int) w0 _ hf.vb rfl) (fun v6 H6 r6 => ?_)
  obtain ⟨rfl, hs6⟩ := r6
  replace hf := hf.nw hs6
  replace hm0 := hm0.tr hs6
  have hz1 := hs6.size
  refine LR.v (Y.assign rfl rfl) (Wd.u rfl) rfl rfl ?_
  refine LR.nil ?_
  refine hK2 _ _ ?_
  refine CW.ret (hret .ret (.inr rfl) _ _ _ (res1 rfl rfl) ?_)
  exact ⟨rfl, hm0⟩

theorem stop_ct (K : List Nat) (g : Gh) (b : Nat) (D : Dk) (n : Int) (w0 : World) (H0 : Heap)
    (hf : PDk K g H0 b D) (hn : n ≤ 9223372036854775807) :
    Ct Tryd.prog w0 27 #[ptr b, .int .i64 n] H0 (fun r H2 => ∃ g2 : Gh, r = .tuple #[] ∧ (PDk K g2 H2 b (D.stop n.toNat)) ∧ (g2.ρ = g.ρ ∧ g2.fb = g.fb ∧ g2.mb = g.mb ∧ g2.dm = g.dm) ∧ Mo (Ms K) H0 H2) := by
  refine Ct.enter (args := [ptr b, .int .i64 n]) Tryd.func27 rfl rfl rfl ?_
  intro Q0 hret
  have hm0 : Mo (Ms K) H0 H0 := Mo.refl _ _
  have nx_hm0_hf := NxK.refl K H0.size
  have hbk_hf := hf.bk
  refine CW.region ?_
  refine LR.v (Y.move rfl rfl) (Wd.u rfl) rfl rfl ?_
  refine LR.v (Y.move rfl rfl) (Wd.u rfl) rfl rfl ?_
  refine LR.v (Y.cast (v2 := .int .i64 (n.toNat : Int)) (Y.maxi rfl rfl rfl) (ivv (by omega))) (Wd.u rfl) rfl rfl ?_
  refine LR.v (Y.nilCheck rfl rfl) (Wd.u rfl) rfl rfl ?_
  refine LR.v (Y.fieldAddr hf.vb.pt rfl Tryd.runUnderlying64 rfl rfl Tryd.sizeOf3 (by decide) rfl) (Wd.u rfl) rfl rfl ?_
  refine LR.s (pd_left hf n.toNat rfl rfl rfl Tryd.sizeOf3 (by omega)) (Wd.u rfl) rfl (fun H0_5 r0_5 => ?_)
  obtain ⟨hf, hs0_5⟩ := r0_5
  replace hm0 := hm0.trL hs0_5 (MIL.ofK (nx_hm0_hf) (by intro k hk; simp [hk]))
  have hz1 := hs0_5.size
  have hbk_hf := hf.bk
  refine LR.nil ?_
  refine hret .normal (.inl rfl) _ _ _ (res0 rfl) ?_
  exact ⟨_, rfl, hf, ⟨rfl, rfl, rfl, rfl⟩, hm0⟩

end Go.Proofs.YtfbfjhppppoilaaDoor.SimE
