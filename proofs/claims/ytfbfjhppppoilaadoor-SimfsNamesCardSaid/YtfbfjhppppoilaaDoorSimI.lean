/-
  The disk: what is done to files and names.
-/
import Derived.Test.YtfbfjhppppoilaaDoorSimH
namespace Go.Proofs.YtfbfjhppppoilaaDoor.SimI
open Go.Proofs.YtfbfjhppppoilaaDoor.E Go.RowKit Go.Proofs.YtfbfjhppppoilaaDoor.SimA Go.Proofs.YtfbfjhppppoilaaDoor.SimB Go.Proofs.YtfbfjhppppoilaaDoor.SimC Go.Proofs.YtfbfjhppppoilaaDoor.SimD Go.Proofs.YtfbfjhppppoilaaDoor.SimE Go.Proofs.YtfbfjhppppoilaaDoor.SimF Go.Proofs.YtfbfjhppppoilaaDoor.SimG Go.Proofs.YtfbfjhppppoilaaDoor.SimH
set_option maxRecDepth 20000
set_option linter.unusedVariables false
set_option linter.unusedSimpArgs false
set_option linter.unusedSectionVars false

theorem sync_dead {D : Dk} {p : Pth} (h : D.begin.1 = false) : D.sync p = (11, D.begin.2) := by unfold Dk.sync; simp [h]
theorem sync_go {D : Dk} {p : Pth} (h : D.begin.1 = true) : D.sync p = (D.begin.2.look p, if D.begin.2.look p = 0 then D.begin.2.syncF ((mget D.begin.2.now p).getD 0) else D.begin.2) := by unfold Dk.sync; simp [h]
theorem ren_dead {D : Dk} {p q : Pth} (h : D.begin.1 = false) : D.rename p q = (11, D.begin.2) := by unfold Dk.rename; simp [h]
theorem ren_go {D : Dk} {p q : Pth} (h : D.begin.1 = true) : D.rename p q = (D.begin.2.renE p q, if D.begin.2.renE p q = 0 ∧ p ≠ q then D.begin.2.change ⟨p, q, some ((mget D.begin.2.now p).getD 0)⟩ else D.begin.2) := by unfold Dk.rename; simp [h]
theorem renE_7 {D : Dk} {p q : Pth} (h : nameB p = false ∨ nameB q = false) : D.renE p q = 7 := by unfold Dk.renE; rw [if_pos h]
theorem renE_13 {D : Dk} {p q : Pth} (h : nameB p = true) (h2 : nameB q = true) (h3 : dirP p ≠ dirP q) : D.renE p q = 13 := by unfold Dk.renE; rw [if_neg (by simp [h, h2]), if_pos h3]
theorem renE_l {D : Dk} {p q : Pth} (h : nameB p = true) (h2 : nameB q = true) (h3 : dirP p = dirP q) : D.renE p q = D.look p := by unfold Dk.renE; rw [if_neg (by simp [h, h2]), if_neg (by simpa using h3)]
theorem rem_dead {D : Dk} {p : Pth} (h : D.begin.1 = false) : D.remove p = (11, D.begin.2) := by unfold Dk.remove; simp [h]
theorem rem_go {D : Dk} {p : Pth} (h : D.begin.1 = true) : D.remove p = (D.begin.2.look p, if D.begin.2.look p = 0 then D.begin.2.change ⟨p, [], none⟩ else D.begin.2) := by unfold Dk.remove; simp [h]
theorem sd_dead {D : Dk} {p : Pth} (h : D.begin.1 = false) : D.syncDir p = (11, D.begin.2) := by unfold Dk.syncDir; simp [h]
theorem sd_go {D : Dk} {p : Pth} (h : D.begin.1 = true) : D.syncDir p = (dirE p, if dirE p = 0 then D.begin.2.stayD p else D.begin.2) := by unfold Dk.syncDir; simp [h]
theorem name_ne {p : Pth} (h : nameB p = true) : p ≠ [] := ((name_iff p).1 h).1
theorem mclone_ct {κ β : Type} {fk : κ → Value} {fv : β → Value} (mb : Nat) (m : List (κ × β)) (w0 : World) (H0 : Heap) (h : Mp H0 fk fv mb m) : Ct Tryd.prog w0 40 #[.map (some mb)] H0 (fun r H2 => ∃ b2 : Nat, r = .map (some b2) ∧ Mp H2 fk fv b2 m ∧ Nx 0 H0.size (b2 + 1) ∧ Nw H0 H2) := by
  intro w ha
  obtain ⟨r, es, clock, hv, h2, h3, h4, h5⟩ := h.mo.ex
  obtain rfl := h2
  have hb : w.heap[r]? = some (.map es clock) := by rw [ha.heap]; exact h3
  refine (AnyW.maps_Clone Tryd.mclone40 r es clock w hb).mono ?_
  rintro e w' ⟨rfl, rfl⟩
  refine ⟨_, H0.push (.map es clock), rfl, ha.alloc _, H0.size, by rw [ha.heap], ⟨⟨H0.size, es, clock, rfl, rfl, by simp, h4, h5⟩⟩, .inr (.inr (by omega)), Nw.pu _ _⟩

set_option maxHeartbeats 2000000 in
theorem write_ct (mx_ : Int) (K : List Nat) (g : Gh) (b : Nat) (D : Dk) (p : Pth) (sd : SV) (d : List UInt8) (F : Nat → Prop) (w0 : World) (H0 : Heap)
    (hf : PDk K g H0 b D) (mx : MX mx_ H0) (bf_mx : BF (fun b => b = 0) H0.size) (dmx : DFL (fun b => b = 0) K) (hd : Rd F H0 fB 1 sd.v d) (bf_hd : BF F H0.size) (dfd : DFL F K) (hl : p.length ≤ 4294967280) (hB : Bd 274877906944 D) (hdl : d.length ≤ 274877906944) :
    Ct Tryd.prog w0 17 #[ptr b, Str p, sd.v] H0 (fun r H2 => ∃ K2 : List Nat, ∃ g2 : Gh, r = .int .i64 ((D.lay p ⟨false, d⟩).1 : Int) ∧ (PDk K2 g2 H2 b (D.lay p ⟨false, d⟩).2) ∧ (NxK K H0.size K2) ∧ Mo (Ms K) H0 H2) := by
  refine Ct.enter (args := [ptr b, Str p, sd.v]) Tryd.func17 rfl rfl rfl ?_
  intro Q0 hret
  have hm0 : Mo (Ms K) H0 H0 := Mo.refl _ _
  have nx_hm0_hf := NxK.refl K H0.size
  have hbk_hf := hf.bk
  refine CW.seq (fun K1 hK1 hE1 => ?_)
  refine CW.region ?_
  refine LR.v (Y.assign rfl rfl) (Wd.u rfl) rfl rfl ?_
  refine LR.nil ?_
  refine hK1 _ _ ?_
  refine CW.seq (fun K2 hK2 hE2 => ?_)
  refine CW.region ?_
  refine LR.v (Y.move rfl rfl) (Wd.u rfl) rfl rfl ?_
  refine LR.v (Y.move rfl rfl) (Wd.u rfl) rfl rfl ?_
  refine LR.v (Y.move rfl rfl) (Wd.u rfl) rfl rfl ?_
  refine LR.v (Y.build (v := wV (⟨false, d⟩, sd)) rfl rfl (by intro w; kernel_rfl)) (Wd.u rfl) rfl rfl ?_
  -- call (*selvage/simfs.FS).lay
  refine LR.call rfl Tryd.call35 rfl (Wd.u rfl) rfl rfl (lay_ct mx_ K g b D p (⟨false, d⟩, sd) F w0 _ hf mx (bf_mx.mono (by omega)) dmx hd (bf_hd.mono (by omega)) dfd hl hB hdl) (fun v11 H11 r11 => ?_)
  have ql1 := hf.bk
  obtain ⟨K11, g11, rfl, hf, hkd11, hs11⟩ := r11
  have df2 := DFL.appK (dmx) (bf_mx.mono hm0.size) hkd11
  have df3 := DFL.appK (dfd) (bf_hd.mono hm0.size) hkd11
  have nx4 : NxK K H0.size K11 := NxK.tr (nx_hm0_hf) hkd11 hm0.size
  replace mx := mx.upL hs11 (dmx)
  replace hd := hd.upL hs11 (dfd)
  replace hm0 := hm0.trL hs11 (MIL.ofK (nx_hm0_hf) (by intro k hk; simp [hk]))
  have hz1 := hs11.size
  have hbk_hf := hf.bk
  refine LR.v (Y.assign rfl rfl) (Wd.u rfl) rfl rfl ?_
  refine LR.nil ?_
  refine hK2 _ _ ?_
  refine CW.ret (hret .ret (.inr rfl) _ _ _ (res1 rfl rfl) ?_)
  exact ⟨_, _, rfl, hf, nx4, hm0⟩

set_option maxHeartbeats 2000000 in
theorem append_ct (mx_ : Int) (K : List Nat) (g : Gh) (b : Nat) (D : Dk) (p : Pth) (sd : SV) (d : List UInt8) (F : Nat → Prop) (w0 : World) (H0 : Heap)
    (hf : PDk K g H0 b D) (mx : MX mx_ H0) (bf_mx : BF (fun b => b = 0) H0.size) (dmx : DFL (fun b => b = 0) K) (hd : Rd F H0 fB 1 sd.v d) (bf_hd : BF F H0.size) (dfd : DFL F K) (hl : p.length ≤ 4294967280) (hB : Bd 274877906944 D) (hdl : d.length ≤ 274877906944) :
    Ct Tryd.prog w0 21 #[ptr b, Str p, sd.v] H0 (fun r H2 => ∃ K2 : List Nat, ∃ g2 : Gh, r = .int .i64 ((D.lay p ⟨true, d⟩).1 : Int) ∧ (PDk K2 g2 H2 b (D.lay p ⟨true, d⟩).2) ∧ (NxK K H0.size K2) ∧ Mo (Ms K) H0 H2) := by
  refine Ct.enter (args := [ptr b, Str p, sd.v]) Tryd.func21 rfl rfl rfl ?_
  intro Q0 hret
  have hm0 : Mo (Ms K) H0 H0 := Mo.refl _ _
  have nx_hm0_hf := NxK.refl K H0.size
  have hbk_hf := hf.bk
  refine CW.seq (fun K1 hK1 hE1 => ?_)
  refine CW.region ?_
  refine LR.v (Y.assign rfl rfl) (Wd.u rfl) rfl rfl ?_
  refine LR.nil ?_
  refine hK1 _ _ ?_
  refine CW.seq (fun K2 hK2 hE2 => ?_)
  refine CW.region ?_
  refine LR.v (Y.move rfl rfl) (Wd.u rfl) rfl rfl ?_
  refine LR.v (Y.move rfl rfl) (Wd.u rfl) rfl rfl ?_
  refine LR.v (Y.move rfl rfl) (Wd.u rfl) rfl rfl ?_
  refine LR.v (Y.build (v := wV (⟨true, d⟩, sd)) rfl rfl (by intro w; kernel_rfl)) (Wd.u rfl) rfl rfl ?_
  -- call (*selvage/simfs.FS).lay
  refine LR.call rfl Tryd.call35 rfl (Wd.u rfl) rfl rfl (lay_ct mx_ K g b D p (⟨true, d⟩, sd) F w0 _ hf mx (bf_mx.mono (by omega)) dmx hd (bf_hd.mono (by omega)) dfd hl hB hdl) (fun v11 H11 r11 => ?_)
  have ql1 := hf.bk
  obtain ⟨K11, g11, rfl, hf, hkd11, hs11⟩ := r11
  have df2 := DFL.appK (dmx) (bf_mx.mono hm0.size) hkd11
  have df3 := DFL.appK (dfd) (bf_hd.mono hm0.size) hkd11
  have nx4 : NxK K H0.size K11 := NxK.tr (nx_hm0_hf) hkd11 hm0.size
  replace mx := mx.upL hs11 (dmx)
  replace hd := hd.upL hs11 (dfd)
  replace hm0 := hm0.trL hs11 (MIL.ofK (nx_hm0_hf) (by intro k hk; simp [hk]))
  have hz1 := hs11.size
  have hbk_hf := hf.bk
  refine LR.v (Y.assign rfl rfl) (Wd.u rfl) rfl rfl ?_
  refine LR.nil ?_
  refine hK2 _ _ ?_
  refine CW.ret (hret .ret (.inr rfl) _ _ _ (res1 rfl rfl) ?_)
  exact ⟨_, _, rfl, hf, nx4, hm0⟩

set_option maxHeartbeats 2000000 in
theorem sync_ct (mx_ : Int) (K : List Nat) (g : Gh) (b : Nat) (D : Dk) (p : Pth) (w0 : World) (H0 : Heap)
    (hf : PDk K g H0 b D) (mx : MX mx_ H0) (bf_mx : BF (fun b => b = 0) H0.size) (dmx : DFL (fun b => b = 0) K) (hl : p.length ≤ 4294967280) (hB : Bd 274877906944 D) :
    Ct Tryd.prog w0 23 #[ptr b, Str p] H0 (fun r H2 => ∃ K2 : List Nat, ∃ g2 : Gh, r = .int .i64 ((D.sync p).1 : Int) ∧ (PDk K2 g2 H2 b (D.sync p).2) ∧ (NxK K H0.size K2) ∧ Mo (Ms K) H0 H2) := by
  refine Ct.enter (args := [ptr b, Str p]) Tryd.func23 rfl rfl rfl ?_
  intro Q0 hret
  have hm0 : Mo (Ms K) H0 H0 := Mo.refl _ _
  have nx_hm0_hf := NxK.refl K H0.size
  have hbk_hf := hf.bk
  have hop0 := hB.op
  have hdm0 := hf.dml
  obtain ⟨D1, hD1⟩ : ∃ D1, D1 = D.begin.2 := ⟨_, rfl⟩
  have hB1 := hB.begin
  rw [← hD1] at hB1
  refine CW.seq (fun K1 hK1 hE1 => ?_)
  refine CW.region ?_
  refine LR.v (Y.assign rfl rfl) (Wd.u rfl) rfl rfl ?_
  refine LR.nil ?_
  refine hK1 _ _ ?_
  refine CW.seq (fun K2 hK2 hE2 => ?_)
  refine CW.seq (fun K3 hK3 hE3 => ?_)
  refine CW.region ?_
  refine LR.v (Y.move rfl rfl) (Wd.u rfl) rfl rfl ?_
  -- call (*selvage/simfs.FS).begin
  refine LR.call rfl Tryd.call38 rfl (Wd.u rfl) rfl rfl (begin_ct K g b D w0 _ hf (by omega)) (fun v8 H8 r8 => ?_)
  obtain ⟨g1, rfl, hf, hg1, hs8⟩ := r8
  replace mx := mx.upL hs8 (dmx)
  replace hm0 := hm0.trL hs8 (MIL.ofK (nx_hm0_hf) (by intro k hk; simp [hk]))
  have hz1 := hs8.size
  rw [← hD1] at hf
  refine LR.v (Y.not rfl rfl) (Wd.u rfl) rfl rfl ?_
  refine LR.nil ?_
  refine hK3 _ _ ?_
  refine CW.cond rfl (fun c9 => ?_) (fun c9 => ?_)
  ·
    refine CW.seq (fun K4 hK4 hE4 => ?_)
    refine CW.region ?_
    refine LR.v (Y.assign rfl rfl) (Wd.u rfl) rfl rfl ?_
    refine LR.nil ?_
    refine hK4 _ _ ?_
    refine CW.ret (hE2 .ret nofun _ _ (hret .ret (.inr rfl) _ _ _ (res1 rfl rfl) ?_))
    have hdd := sync_dead (p := p) (show D.begin.1 = false by simpa using c9)
    exact ⟨_, _, by rw [hdd]; rfl, by rw [hdd]; rw [hD1] at hf; exact hf, nx_hm0_hf, hm0⟩
  ·
    have hgo : D.begin.1 = true := by simpa using c9
    have hops := (begin_true hgo).1
    rw [← hD1] at hops
    have hlay := sync_go (p := p) hgo
    rw [← hD1] at hlay
    refine CW.skip ?_
    refine hK2 _ _ ?_
    refine CW.seq (fun K5 hK5 hE5 => ?_)
    refine CW.region ?_
    refine LR.v (Y.move rfl rfl) (Wd.u rfl) rfl rfl ?_
    refine LR.v (Y.move rfl rfl) (Wd.u rfl) rfl rfl ?_
    -- call (*selvage/simfs.FS).find
    refine LR.call rfl Tryd.call36 rfl (Wd.u rfl) rfl rfl (find_ct mx_ K g1 b D1 p w0 _ mx (bf_mx.mono (by omega)) hf hl) (fun v13 H13 r13 => ?_)
    obtain ⟨rfl, hs13⟩ := r13
    replace hf := hf.nw hs13
    replace mx := mx.nw hs13
    replace hm0 := hm0.trN hs13
    have hz2 := hs13.size
    refine LR.v (Y.move rfl rfl) (Wd.u rfl) rfl rfl ?_
    refine LR.v (Y.extract rfl rfl rfl) (Wd.u rfl) rfl rfl ?_
    refine LR.v (Y.extract rfl rfl rfl) (Wd.u rfl) rfl rfl ?_
    refine LR.v (Y.assign rfl rfl) (Wd.u rfl) rfl rfl ?_
    refine LR.v (Y.assign rfl rfl) (Wd.u rfl) rfl rfl ?_
    refine LR.nil ?_
    refine hK5 _ _ ?_
    refine CW.seq (fun K6 hK6 hE6 => ?_)
    refine CW.seq (fun K7 hK7 hE7 => ?_)
    refine CW.region ?_
    refine LR.v (Y.move rfl rfl) (Wd.u rfl) rfl rfl ?_
    refine LR.v (Y.eql rfl rfl rfl) (Wd.u rfl) rfl rfl ?_
    refine LR.nil ?_
    refine hK7 _ _ ?_
    refine CW.condp rfl (fun c17 => ?_) (fun c17 => ?_)
    ·
      have hlk : D1.look p = 0 := by omega
      obtain ⟨hnm, i, hnow⟩ := look_0 hlk
      have hil := hf.ids.1 p i hnow
      obtain ⟨bi, hbi, hbv⟩ : ∃ bi, g1.fb.getD i 0 = bi ∧ .pointer (fpt g1.fb (if D1.look p = 0 then mget D1.now p else none)) = ptr bi := ⟨_, rfl, by rw [if_pos hlk, hnow]; rfl⟩
      obtain ⟨nvB, svB, wvB, kwB, lwB, hfiB⟩ := hf.fil i hil
      have hop : Mo (Ms [(bi + 1)]) H13 H13 := Mo.refl _ _
      have km1 : KM K (bi + 1) := (hf.kmf hfiB hbi)
      have vf2 := hfiB.atb hbi
      have hlt_vf2 := vf2.lt
      have df2 := DFL.at (dmx) km1
      have nx3 : MI K H0.size (bi + 1) := MIL.at (MIL.ofK (nx_hm0_hf) (by intro k hk; simp [hk])) km1
      have nx4 := Nx.refl (bi + 1) H13.size
      refine CW.region ?_
      refine LR.v (Y.cast (v2 := ptr bi) (Y.move rfl rfl) (hbv)) (Wd.u rfl) rfl rfl ?_
      refine LR.v (Y.cast (v2 := ptr bi) (Y.move rfl rfl) (hbv)) (Wd.u rfl) rfl rfl ?_
      refine LR.v (Y.cast (v2 := ptr bi) (Y.move rfl rfl) (hbv)) (Wd.u rfl) rfl rfl ?_
      refine LR.v (Y.nilCheck rfl rfl) (Wd.u rfl) rfl rfl ?_
      refine LR.v (Y.fieldAddr vf2.pt rfl Tryd.runUnderlying76 rfl rfl Tryd.sizeOf73 (by decide) rfl) (Wd.u rfl) rfl rfl ?_
      refine LR.v (Y.fieldAddr vf2.pt rfl Tryd.runUnderlying73 rfl rfl Tryd.sizeOf25 (by decide) rfl) (Wd.u rfl) rfl rfl ?_
      refine LR.v (Y.load1 vf2.pt rfl Tryd.isAgg25 rfl) (Wd.u rfl) rfl rfl ?_
      refine LR.v (Y.nilCheck rfl rfl) (Wd.u rfl) rfl rfl ?_
      refine LR.v (Y.fieldAddr vf2.pt rfl Tryd.runUnderlying76 rfl rfl Tryd.sizeOf73 (by decide) rfl) (Wd.u rfl) rfl rfl ?_
      refine LR.v (Y.fieldAddr vf2.pt rfl Tryd.runUnderlying73 rfl rfl Tryd.sizeOf25 (by decide) rfl) (Wd.u rfl) rfl rfl ?_
      refine LR.s (S.var1 vf2 1 ([nvB.v, nvB.v, wvB.v]) rfl rfl rfl (rfl) Tryd.sizeOf25 (by simp) (rfl)) (Wd.u rfl) rfl (fun H5_10 r5_10 => ?_)
      obtain ⟨vf2, hs5_10⟩ := r5_10
      replace hs5_10 := hs5_10.md1
      replace mx := mx.upL hs5_10 (DFL.cons df2 DFL.nil)
      replace hm0 := hm0.trL hs5_10 (MIL.cons (nx3) MIL.nil)
      replace hop := hop.trL hs5_10 (MIL.cons (MI.app (MI.root (by simp)) (nx4) (Nat.le_refl _)) MIL.nil)
      have hz3 := hs5_10.size
      refine LR.v (Y.nilCheck rfl rfl) (Wd.u rfl) rfl rfl ?_
      refine LR.v (Y.fieldAddr vf2.pt rfl Tryd.runUnderlying76 rfl rfl Tryd.sizeOf74 (by decide) rfl) (Wd.u rfl) rfl rfl ?_
      refine LR.s (S.var1 vf2 2 ([nvB.v, nvB.v, .slice none 0 0]) rfl rfl rfl (rfl) Tryd.sizeOf74 (by simp) (rfl)) (Wd.u rfl) rfl (fun H5_13 r5_13 => ?_)
      obtain ⟨vf2, hs5_13⟩ := r5_13
      replace hs5_13 := hs5_13.md1
      replace mx := mx.upL hs5_13 (DFL.cons df2 DFL.nil)
      replace hm0 := hm0.trL hs5_13 (MIL.cons (nx3) MIL.nil)
      replace hop := hop.trL hs5_13 (MIL.cons (MI.app (MI.root (by simp)) (nx4) (Nat.le_refl _)) MIL.nil)
      have hz4 := hs5_13.size
      refine LR.nil ?_
      have df5 : DFL _ K := dmx
      have nx6 : NxK K H0.size K := nx_hm0_hf
      replace hf := hf.fsync hil hfiB hbi hop vf2
      have hbk_hf := hf.bk
      refine hK6 _ _ ?_
      refine CW.seq (fun K8 hK8 hE8 => ?_)
      refine CW.region ?_
      refine LR.v (Y.move rfl rfl) (Wd.u rfl) rfl rfl ?_
      refine LR.v (Y.assign rfl rfl) (Wd.u rfl) rfl rfl ?_
      refine LR.nil ?_
      refine hK8 _ _ ?_
      refine CW.ret (hret .ret (.inr rfl) _ _ _ (res1 rfl rfl) ?_)
      exact ⟨_, _, by rw [hlay]; rfl, by rw [hlay]; simp only [hlk, if_true, hnow, Option.getD_some]; exact hf, nx6, hm0⟩
    ·
      refine CW.skip ?_
      refine hK6 _ _ ?_
      refine CW.seq (fun K9 hK9 hE9 => ?_)
      refine CW.region ?_
      refine LR.v (Y.move rfl rfl) (Wd.u rfl) rfl rfl ?_
      refine LR.v (Y.assign rfl rfl) (Wd.u rfl) rfl rfl ?_
      refine LR.nil ?_
      refine hK9 _ _ ?_
      refine CW.ret (hret .ret (.inr rfl) _ _ _ (res1 rfl rfl) ?_)
      exact ⟨_, _, by rw [hlay]; rfl, by rw [hlay]; rw [if_neg (by omega)]; exact hf, nx_hm0_hf, hm0⟩

set_option maxHeartbeats 2000000 in
theorem remove_ct (mx_ : Int) (K : List Nat) (g : Gh) (b : Nat) (D : Dk) (p : Pth) (w0 : World) (H0 : Heap)
    (hf : PDk K g H0 b D) (mx : MX mx_ H0) (bf_mx : BF (fun b => b = 0) H0.size) (dmx : DFL (fun b => b = 0) K) (hl : p.length ≤ 4294967280) (hB : Bd 274877906944 D) :
    Ct Tryd.prog w0 29 #[ptr b, Str p] H0 (fun r H2 => ∃ K2 : List Nat, ∃ g2 : Gh, r = .int .i64 ((D.remove p).1 : Int) ∧ (PDk K2 g2 H2 b (D.remove p).2) ∧ (NxK K H0.size K2) ∧ Mo (Ms K) H0 H2) := by
  refine Ct.enter (args := [ptr b, Str p]) Tryd.func29 rfl rfl rfl ?_
  intro Q0 hret
  have hm0 : Mo (Ms K) H0 H0 := Mo.refl _ _
  have nx_hm0_hf := NxK.refl K H0.size
  have hbk_hf := hf.bk
  have hop0 := hB.op
  have hdm0 := hf.dml
  obtain ⟨D1, hD1⟩ : ∃ D1, D1 = D.begin.2 := ⟨_, rfl⟩
  have hB1 := hB.begin
  rw [← hD1] at hB1
  refine CW.seq (fun K1 hK1 hE1 => ?_)
  refine CW.region ?_
  refine LR.v (Y.assign rfl rfl) (Wd.u rfl) rfl rfl ?_
  refine LR.nil ?_
  refine hK1 _ _ ?_
  refine CW.seq (fun K2 hK2 hE2 => ?_)
  refine CW.seq (fun K3 hK3 hE3 => ?_)
  refine CW.region ?_
  refine LR.v (Y.move rfl rfl) (Wd.u rfl) rfl rfl ?_
  -- call (*selvage/simfs.FS).begin
  refine LR.call rfl Tryd.call38 rfl (Wd.u rfl) rfl rfl (begin_ct K g b D w0 _ hf (by omega)) (fun v8 H8 r8 => ?_)
  obtain ⟨g1, rfl, hf, hg1, hs8⟩ := r8
  replace mx := mx.upL hs8 (dmx)
  replace hm0 := hm0.trL hs8 (MIL.ofK (nx_hm0_hf) (by intro k hk; simp [hk]))
  have hz1 := hs8.size
  rw [← hD1] at hf
  refine LR.v (Y.not rfl rfl) (Wd.u rfl) rfl rfl ?_
  refine LR.nil ?_
  refine hK3 _ _ ?_
  refine CW.cond rfl (fun c9 => ?_) (fun c9 => ?_)
  ·
    refine CW.seq (fun K4 hK4 hE4 => ?_)
    refine CW.region ?_
    refine LR.v (Y.assign rfl rfl) (Wd.u rfl) rfl rfl ?_
    refine LR.nil ?_
    refine hK4 _ _ ?_
    refine CW.ret (hE2 .ret nofun _ _ (hret .ret (.inr rfl) _ _ _ (res1 rfl rfl) ?_))
    have hdd := rem_dead (p := p) (show D.begin.1 = false by simpa using c9)
    exact ⟨_, _, by rw [hdd]; rfl, by rw [hdd]; rw [hD1] at hf; exact hf, nx_hm0_hf, hm0⟩
  ·
    have hgo : D.begin.1 = true := by simpa using c9
    have hops := (begin_true hgo).1
    rw [← hD1] at hops
    have hlay := rem_go (p := p) hgo
    rw [← hD1] at hlay
    refine CW.skip ?_
    refine hK2 _ _ ?_
    refine CW.seq (fun K5 hK5 hE5 => ?_)
    refine CW.region ?_
    refine LR.v (Y.move rfl rfl) (Wd.u rfl) rfl rfl ?_
    refine LR.v (Y.move rfl rfl) (Wd.u rfl) rfl rfl ?_
    -- call (*selvage/simfs.FS).find
    refine LR.call rfl Tryd.call36 rfl (Wd.u rfl) rfl rfl (find_ct mx_ K g1 b D1 p w0 _ mx (bf_mx.mono (by omega)) hf hl) (fun v13 H13 r13 => ?_)
    obtain ⟨rfl, hs13⟩ := r13
    replace hf := hf.nw hs13
    replace mx := mx.nw hs13
    replace hm0 := hm0.trN hs13
    have hz2 := hs13.size
    refine LR.v (Y.move rfl rfl) (Wd.u rfl) rfl rfl ?_
    refine LR.v (Y.extract rfl rfl rfl) (Wd.u rfl) rfl rfl ?_
    refine LR.v (Y.extract rfl rfl rfl) (Wd.u rfl) rfl rfl ?_
    refine LR.v (Y.assign rfl rfl) (Wd.u rfl) rfl rfl ?_
    refine LR.v (Y.assign rfl rfl) (Wd.u rfl) rfl rfl ?_
    refine LR.nil ?_
    refine hK5 _ _ ?_
    refine CW.seq (fun K6 hK6 hE6 => ?_)
    refine CW.seq (fun K7 hK7 hE7 => ?_)
    refine CW.region ?_
    refine LR.v (Y.move rfl rfl) (Wd.u rfl) rfl rfl ?_
    refine LR.v (Y.eql rfl rfl rfl) (Wd.u rfl) rfl rfl ?_
    refine LR.nil ?_
    refine hK7 _ _ ?_
    refine CW.condp rfl (fun c17 => ?_) (fun c17 => ?_)
    ·
      have hlk : D1.look p = 0 := by omega
      obtain ⟨hnm, i, hnow⟩ := look_0 hlk
      have hil := hf.ids.1 p i hnow
      obtain ⟨bi, hbi, hbv⟩ : ∃ bi, g1.fb.getD i 0 = bi ∧ .pointer (fpt g1.fb (if D1.look p = 0 then mget D1.now p else none)) = ptr bi := ⟨_, rfl, by rw [if_pos hlk, hnow]; rfl⟩
      refine CW.region ?_
      refine LR.v (Y.move rfl rfl) (Wd.u rfl) rfl rfl ?_
      refine LR.v (Y.move rfl rfl) (Wd.u rfl) rfl rfl ?_
      -- call selvage/simfs.Dir
      refine LR.call rfl Tryd.call14 rfl (Wd.u rfl) rfl rfl (dir_ct mx_ p w0 _ mx (bf_mx.mono (by omega)) hl) (fun v20 H20 r20 => ?_)
      obtain ⟨rfl, hs20⟩ := r20
      replace hf := hf.nw hs20
      replace mx := mx.nw hs20
      replace hm0 := hm0.trN hs20
      have hz3 := hs20.size
      refine LR.v (Y.move rfl rfl) (Wd.u rfl) rfl rfl ?_
      refine LR.v (Y.build (v := .agg (fC g1.fb ⟨p, [], none⟩).toArray) rfl rfl (by intro w; kernel_rfl)) (Wd.u rfl) rfl rfl ?_
      -- call (*selvage/simfs.FS).change
      refine LR.call rfl Tryd.call48 rfl (Wd.u rfl) rfl rfl (change_ct K g1 b D1 (dirP p) ⟨p, [], none⟩ w0 _ hf (by rw [hg1.2.2.2]; omega) (by simp [Chg.dir, name_ne hnm]) (fun i hi => by cases hi) (fun h => rfl) (by have := hB1.lg; omega)) (fun v23 H23 r23 => ?_)
      have ql1 := hf.bk
      obtain ⟨K23, g23, rfl, hf, hkd23, hg23, hs23⟩ := r23
      have df2 := DFL.appK (dmx) (bf_mx.mono hm0.size) hkd23
      have nx3 : NxK K H0.size K23 := NxK.tr (nx_hm0_hf) hkd23 hm0.size
      replace mx := mx.upL hs23 (dmx)
      replace hm0 := hm0.trL hs23 (MIL.ofK (nx_hm0_hf) (by intro k hk; simp [hk]))
      have hz4 := hs23.size
      have hbk_hf := hf.bk
      refine LR.nil ?_
      refine hK6 _ _ ?_
      refine CW.seq (fun K8 hK8 hE8 => ?_)
      refine CW.region ?_
      refine LR.v (Y.move rfl rfl) (Wd.u rfl) rfl rfl ?_
      refine LR.v (Y.assign rfl rfl) (Wd.u rfl) rfl rfl ?_
      refine LR.nil ?_
      refine hK8 _ _ ?_
      refine CW.ret (hret .ret (.inr rfl) _ _ _ (res1 rfl rfl) ?_)
      exact ⟨_, _, by rw [hlay]; rfl, by rw [hlay]; simp only [hlk, if_true]; exact hf, nx3, hm0⟩
    ·
      refine CW.skip ?_
      refine hK6 _ _ ?_
      refine CW.seq (fun K9 hK9 hE9 => ?_)
      refine CW.region ?_
      refine LR.v (Y.move rfl rfl) (Wd.u rfl) rfl rfl ?_
      refine LR.v (Y.assign rfl rfl) (Wd.u rfl) rfl rfl ?_
      refine LR.nil ?_
      refine hK9 _ _ ?_
      refine CW.ret (hret .ret (.inr rfl) _ _ _ (res1 rfl rfl) ?_)
      exact ⟨_, _, by rw [hlay]; rfl, by rw [hlay]; rw [if_neg (by omega)]; exact hf, nx_hm0_hf, hm0⟩

set_option maxHeartbeats 2000000 in
theorem rename_ct (mx_ : Int) (K : List Nat) (g : Gh) (b : Nat) (D : Dk) (p q : Pth) (w0 : World) (H0 : Heap)
    (hf : PDk K g H0 b D) (mx : MX mx_ H0) (bf_mx : BF (fun b => b = 0) H0.size) (dmx : DFL (fun b => b = 0) K) (hl : p.length ≤ 4294967280) (hl2 : q.length ≤ 4294967280) (hB : Bd 274877906944 D) :
    Ct Tryd.prog w0 28 #[ptr b, Str p, Str q] H0 (fun r H2 => ∃ K2 : List Nat, ∃ g2 : Gh, r = .int .i64 ((D.rename p q).1 : Int) ∧ (PDk K2 g2 H2 b (D.rename p q).2) ∧ (NxK K H0.size K2) ∧ Mo (Ms K) H0 H2) := by
  refine Ct.enter (args := [ptr b, Str p, Str q]) Tryd.func28 rfl rfl rfl ?_
  intro Q0 hret
  have hm0 : Mo (Ms K) H0 H0 := Mo.refl _ _
  have nx_hm0_hf := NxK.refl K H0.size
  have hbk_hf := hf.bk
  have hop0 := hB.op
  have hdm0 := hf.dml
  obtain ⟨D1, hD1⟩ : ∃ D1, D1 = D.begin.2 := ⟨_, rfl⟩
  have hB1 := hB.begin
  rw [← hD1] at hB1
  refine CW.seq (fun K1 hK1 hE1 => ?_)
  refine CW.region ?_
  refine LR.v (Y.assign rfl rfl) (Wd.u rfl) rfl rfl ?_
  refine LR.nil ?_
  refine hK1 _ _ ?_
  refine CW.seq (fun K2 hK2 hE2 => ?_)
  refine CW.seq (fun K3 hK3 hE3 => ?_)
  refine CW.region ?_
  refine LR.v (Y.move rfl rfl) (Wd.u rfl) rfl rfl ?_
  -- call (*selvage/simfs.FS).begin
  refine LR.call rfl Tryd.call38 rfl (Wd.u rfl) rfl rfl (begin_ct K g b D w0 _ hf (by omega)) (fun v10 H10 r10 => ?_)
  obtain ⟨g1, rfl, hf, hg1, hs10⟩ := r10
  replace mx := mx.upL hs10 (dmx)
  replace hm0 := hm0.trL hs10 (MIL.ofK (nx_hm0_hf) (by intro k hk; simp [hk]))
  have hz1 := hs10.size
  rw [← hD1] at hf
  refine LR.v (Y.not rfl rfl) (Wd.u rfl) rfl rfl ?_
  refine LR.nil ?_
  refine hK3 _ _ ?_
  refine CW.cond rfl (fun c11 => ?_) (fun c11 => ?_)
  ·
    refine CW.seq (fun K4 hK4 hE4 => ?_)
    refine CW.region ?_
    refine LR.v (Y.assign rfl rfl) (Wd.u rfl) rfl rfl ?_
    refine LR.nil ?_
    refine hK4 _ _ ?_
    refine CW.ret (hE2 .ret nofun _ _ (hret .ret (.inr rfl) _ _ _ (res1 rfl rfl) ?_))
    have hdd := ren_dead (p := p) (q := q) (show D.begin.1 = false by simpa using c11)
    exact ⟨_, _, by rw [hdd]; rfl, by rw [hdd]; rw [hD1] at hf; exact hf, nx_hm0_hf, hm0⟩
  ·
    have hgo : D.begin.1 = true := by simpa using c11
    have hops := (begin_true hgo).1
    rw [← hD1] at hops
    have hlay := ren_go (p := p) (q := q) hgo
    rw [← hD1] at hlay
    refine CW.skip ?_
    refine hK2 _ _ ?_
    refine CW.seq (fun K5 hK5 hE5 => ?_)
    refine CW.block (fun K6 hK6 hX6 hE6 => ?_)
    refine CW.seq (fun K7 hK7 hE7 => ?_)
    refine CW.region ?_
    refine LR.v (Y.move rfl rfl) (Wd.u rfl) rfl rfl ?_
    -- call selvage/simfs.Name
    refine LR.call rfl Tryd.call12 rfl (Wd.u rfl) rfl rfl (name_ct mx_ p w0 _ mx (bf_mx.mono (by omega)) hl) (fun v14 H14 r14 => ?_)
    obtain ⟨rfl, hs14⟩ := r14
    replace hf := hf.nw hs14
    replace mx := mx.nw hs14
    replace hm0 := hm0.trN hs14
    have hz2 := hs14.size
    refine LR.v (Y.not rfl rfl) (Wd.u rfl) rfl rfl ?_
    refine LR.v (Y.move rfl rfl) (Wd.u rfl) rfl rfl ?_
    refine LR.split (d := 16) rfl (fun g16 => ?_) (fun g16 => ?_)
    ·
      refine LR.gs rfl rfl rfl rfl rfl rfl ?_
      refine LR.gs rfl rfl rfl rfl rfl rfl ?_
      refine LR.gs rfl rfl rfl rfl rfl rfl ?_
      refine LR.v (Y.pick_t rfl rfl rfl) (Wd.u rfl) rfl rfl ?_
      refine LR.v (Y.assign rfl rfl) (Wd.u rfl) rfl rfl ?_
      refine LR.nil ?_
      refine hK7 _ _ ?_
      refine CW.cond_t rfl ?_
      refine CW.seq (fun K8 hK8 hE8 => ?_)
      refine CW.region ?_
      refine LR.v (Y.assign rfl rfl) (Wd.u rfl) rfl rfl ?_
      refine LR.nil ?_
      refine hK8 _ _ ?_
      refine CW.ret (hE6 .ret nofun (by simp) _ _ (hE5 .ret nofun _ _ (hret .ret (.inr rfl) _ _ _ (res1 rfl rfl) ?_)))
      have hE := renE_7 (D := D1) (p := p) (q := q) (by first | exact .inl (by simpa using g16) | exact .inr (by simpa using c12))
      exact ⟨_, _, by rw [hlay, hE]; rfl, by rw [hlay, hE]; exact hf, nx_hm0_hf, hm0⟩
    ·
      refine LR.v (Y.move rfl rfl) (Wd.g rfl rfl rfl) rfl rfl ?_
      -- call selvage/simfs.Name
      refine LR.call rfl Tryd.call12 rfl (Wd.g rfl rfl rfl) rfl rfl (name_ct mx_ q w0 _ mx (bf_mx.mono (by omega)) hl2) (fun v18 H18 r18 => ?_)
      obtain ⟨rfl, hs18⟩ := r18
      replace hf := hf.nw hs18
      replace mx := mx.nw hs18
      replace hm0 := hm0.trN hs18
      have hz3 := hs18.size
      refine LR.v (Y.not rfl rfl) (Wd.g rfl rfl rfl) rfl rfl ?_
      refine LR.v (Y.pick_f rfl rfl rfl) (Wd.u rfl) rfl rfl ?_
      refine LR.v (Y.assign rfl rfl) (Wd.u rfl) rfl rfl ?_
      refine LR.nil ?_
      refine hK7 _ _ ?_
      refine CW.cond rfl (fun c12 => ?_) (fun c12 => ?_)
      ·
        refine CW.seq (fun K9 hK9 hE9 => ?_)
        refine CW.region ?_
        refine LR.v (Y.assign rfl rfl) (Wd.u rfl) rfl rfl ?_
        refine LR.nil ?_
        refine hK9 _ _ ?_
        refine CW.ret (hE6 .ret nofun (by simp) _ _ (hE5 .ret nofun _ _ (hret .ret (.inr rfl) _ _ _ (res1 rfl rfl) ?_)))
        have hE := renE_7 (D := D1) (p := p) (q := q) (by first | exact .inl (by simpa using g16) | exact .inr (by simpa using c12))
        exact ⟨_, _, by rw [hlay, hE]; rfl, by rw [hlay, hE]; exact hf, nx_hm0_hf, hm0⟩
      ·
        refine CW.seq (fun K10 hK10 hE10 => ?_)
        refine CW.region ?_
        refine LR.v (Y.move rfl rfl) (Wd.u rfl) rfl rfl ?_
        -- call selvage/simfs.Dir
        refine LR.call rfl Tryd.call14 rfl (Wd.u rfl) rfl rfl (dir_ct mx_ p w0 _ mx (bf_mx.mono (by omega)) hl) (fun v23 H23 r23 => ?_)
        obtain ⟨rfl, hs23⟩ := r23
        replace hf := hf.nw hs23
        replace mx := mx.nw hs23
        replace hm0 := hm0.trN hs23
        have hz4 := hs23.size
        refine LR.v (Y.move rfl rfl) (Wd.u rfl) rfl rfl ?_
        -- call selvage/simfs.Dir
        refine LR.call rfl Tryd.call14 rfl (Wd.u rfl) rfl rfl (dir_ct mx_ q w0 _ mx (bf_mx.mono (by omega)) hl2) (fun v25 H25 r25 => ?_)
        obtain ⟨rfl, hs25⟩ := r25
        replace hf := hf.nw hs25
        replace mx := mx.nw hs25
        replace hm0 := hm0.trN hs25
        have hz5 := hs25.size
        refine LR.v (Y.sneq rfl rfl rfl) (Wd.u rfl) rfl rfl ?_
        refine LR.v (Y.assign rfl rfl) (Wd.u rfl) rfl rfl ?_
        refine LR.nil ?_
        refine hK10 _ _ ?_
        refine CW.condp rfl (fun c21 => ?_) (fun c21 => ?_)
        ·
          refine CW.seq (fun K11 hK11 hE11 => ?_)
          refine CW.region ?_
          refine LR.v (Y.assign rfl rfl) (Wd.u rfl) rfl rfl ?_
          refine LR.nil ?_
          refine hK11 _ _ ?_
          refine CW.ret (hE6 .ret nofun (by simp) _ _ (hE5 .ret nofun _ _ (hret .ret (.inr rfl) _ _ _ (res1 rfl rfl) ?_)))
          have hE := renE_13 (D := D1) (p := p) (q := q) (by simpa using g16) (by simpa using c12) (by simpa using c21)
          exact ⟨_, _, by rw [hlay, hE]; rfl, by rw [hlay, hE]; exact hf, nx_hm0_hf, hm0⟩
        ·
          have hdq : dirP p = dirP q := by simpa using c21
          have hn1 : nameB p = true := by simpa using g16
          have hn2 : nameB q = true := by simpa using c12
          have hrl := renE_l (D := D1) hn1 hn2 hdq
          refine CW.skip ?_
          refine hK6 _ _ ?_
          refine hK5 _ _ ?_
          refine CW.seq (fun K12 hK12 hE12 => ?_)
          refine CW.region ?_
          refine LR.v (Y.move rfl rfl) (Wd.u rfl) rfl rfl ?_
          refine LR.v (Y.move rfl rfl) (Wd.u rfl) rfl rfl ?_
          -- call (*selvage/simfs.FS).find
          refine LR.call rfl Tryd.call36 rfl (Wd.u rfl) rfl rfl (find_ct mx_ K g1 b D1 p w0 _ mx (bf_mx.mono (by omega)) hf hl) (fun v30 H30 r30 => ?_)
          obtain ⟨rfl, hs30⟩ := r30
          replace hf := hf.nw hs30
          replace mx := mx.nw hs30
          replace hm0 := hm0.trN hs30
          have hz6 := hs30.size
          refine LR.v (Y.move rfl rfl) (Wd.u rfl) rfl rfl ?_
          refine LR.v (Y.extract rfl rfl rfl) (Wd.u rfl) rfl rfl ?_
          refine LR.v (Y.extract rfl rfl rfl) (Wd.u rfl) rfl rfl ?_
          refine LR.v (Y.assign rfl rfl) (Wd.u rfl) rfl rfl ?_
          refine LR.v (Y.assign rfl rfl) (Wd.u rfl) rfl rfl ?_
          refine LR.nil ?_
          refine hK12 _ _ ?_
          refine CW.seq (fun K13 hK13 hE13 => ?_)
          refine CW.seq (fun K14 hK14 hE14 => ?_)
          refine CW.region ?_
          refine LR.v (Y.move rfl rfl) (Wd.u rfl) rfl rfl ?_
          refine LR.v (Y.eql rfl rfl rfl) (Wd.u rfl) rfl rfl ?_
          refine LR.v (Y.move rfl rfl) (Wd.u rfl) rfl rfl ?_
          refine LR.splitp (d := 35) rfl (fun g35 => ?_) (fun g35 => ?_)
          ·
            refine LR.v (Y.move rfl rfl) (Wd.g rfl rfl rfl) rfl rfl ?_
            refine LR.v (Y.move rfl rfl) (Wd.g rfl rfl rfl) rfl rfl ?_
            refine LR.v (Y.sneq rfl rfl rfl) (Wd.g rfl rfl rfl) rfl rfl ?_
            refine LR.v (Y.pick_t rfl rfl rfl) (Wd.u rfl) rfl rfl ?_
            refine LR.nil ?_
            refine hK14 _ _ ?_
            refine CW.condp rfl (fun c39 => ?_) (fun c39 => ?_)
            ·
              have hlk : D1.look p = 0 := by omega
              obtain ⟨hnm, i, hnow⟩ := look_0 hlk
              have hil := hf.ids.1 p i hnow
              refine CW.region ?_
              refine LR.v (Y.move rfl rfl) (Wd.u rfl) rfl rfl ?_
              refine LR.v (Y.move rfl rfl) (Wd.u rfl) rfl rfl ?_
              -- call selvage/simfs.Dir
              refine LR.call rfl Tryd.call14 rfl (Wd.u rfl) rfl rfl (dir_ct mx_ p w0 _ mx (bf_mx.mono (by omega)) hl) (fun v42 H42 r42 => ?_)
              obtain ⟨rfl, hs42⟩ := r42
              replace hf := hf.nw hs42
              replace mx := mx.nw hs42
              replace hm0 := hm0.trN hs42
              have hz7 := hs42.size
              refine LR.v (Y.move rfl rfl) (Wd.u rfl) rfl rfl ?_
              refine LR.v (Y.move rfl rfl) (Wd.u rfl) rfl rfl ?_
              refine LR.v (Y.move rfl rfl) (Wd.u rfl) rfl rfl ?_
              refine LR.v (Y.cast (v2 := .agg (fC g1.fb ⟨p, q, some i⟩).toArray) (Y.build (v := .agg #[Str p, Str q, .pointer (fpt g1.fb (if D1.look p = 0 then mget D1.now p else none))]) rfl rfl (by intro w; kernel_rfl)) (by rw [if_pos hlk, hnow])) (Wd.u rfl) rfl rfl ?_
              -- call (*selvage/simfs.FS).change
              refine LR.call rfl Tryd.call48 rfl (Wd.u rfl) rfl rfl (change_ct K g1 b D1 (dirP p) ⟨p, q, some i⟩ w0 _ hf (by rw [hg1.2.2.2]; omega) (by simp [Chg.dir, name_ne hnm]) (fun j hj => by cases hj; exact ⟨hdq.symm, hil⟩) (fun h => rfl) (by have := hB1.lg; omega)) (fun v47 H47 r47 => ?_)
              have ql1 := hf.bk
              obtain ⟨K47, g47, rfl, hf, hkd47, hg47, hs47⟩ := r47
              have df2 := DFL.appK (dmx) (bf_mx.mono hm0.size) hkd47
              have nx3 : NxK K H0.size K47 := NxK.tr (nx_hm0_hf) hkd47 hm0.size
              replace mx := mx.upL hs47 (dmx)
              replace hm0 := hm0.trL hs47 (MIL.ofK (nx_hm0_hf) (by intro k hk; simp [hk]))
              have hz8 := hs47.size
              have hbk_hf := hf.bk
              refine LR.nil ?_
              refine hK13 _ _ ?_
              refine CW.seq (fun K15 hK15 hE15 => ?_)
              refine CW.region ?_
              refine LR.v (Y.move rfl rfl) (Wd.u rfl) rfl rfl ?_
              refine LR.v (Y.assign rfl rfl) (Wd.u rfl) rfl rfl ?_
              refine LR.nil ?_
              refine hK15 _ _ ?_
              refine CW.ret (hret .ret (.inr rfl) _ _ _ (res1 rfl rfl) ?_)
              exact ⟨_, _, by rw [hlay, hrl]; rfl, by rw [hlay, hrl]; rw [if_pos ⟨hlk, by simpa using c39⟩, hnow]; exact hf, nx3, hm0⟩
            ·
              refine CW.skip ?_
              refine hK13 _ _ ?_
              refine CW.seq (fun K16 hK16 hE16 => ?_)
              refine CW.region ?_
              refine LR.v (Y.move rfl rfl) (Wd.u rfl) rfl rfl ?_
              refine LR.v (Y.assign rfl rfl) (Wd.u rfl) rfl rfl ?_
              refine LR.nil ?_
              refine hK16 _ _ ?_
              refine CW.ret (hret .ret (.inr rfl) _ _ _ (res1 rfl rfl) ?_)
              exact ⟨_, _, by rw [hlay, hrl]; rfl, by rw [hlay, hrl]; rw [if_neg (fun h => by first | exact g35 (by omega) | exact h.2 (by simpa using c39))]; exact hf, nx_hm0_hf, hm0⟩
          ·
            refine LR.gs rfl rfl rfl rfl rfl rfl ?_
            refine LR.gs rfl rfl rfl rfl rfl rfl ?_
            refine LR.gs rfl rfl rfl rfl rfl rfl ?_
            refine LR.v (Y.pick_f rfl rfl rfl) (Wd.u rfl) rfl rfl ?_
            refine LR.nil ?_
            refine hK14 _ _ ?_
            refine CW.cond_f rfl ?_
            refine CW.skip ?_
            refine hK13 _ _ ?_
            refine CW.seq (fun K17 hK17 hE17 => ?_)
            refine CW.region ?_
            refine LR.v (Y.move rfl rfl) (Wd.u rfl) rfl rfl ?_
            refine LR.v (Y.assign rfl rfl) (Wd.u rfl) rfl rfl ?_
            refine LR.nil ?_
            refine hK17 _ _ ?_
            refine CW.ret (hret .ret (.inr rfl) _ _ _ (res1 rfl rfl) ?_)
            exact ⟨_, _, by rw [hlay, hrl]; rfl, by rw [hlay, hrl]; rw [if_neg (fun h => by first | exact g35 (by omega) | exact h.2 (by simpa using c39))]; exact hf, nx_hm0_hf, hm0⟩

set_option maxHeartbeats 2000000 in
theorem syncDir_ct (mx_ : Int) (K : List Nat) (g : Gh) (b : Nat) (D : Dk) (p : Pth) (w0 : World) (H0 : Heap)
    (hf : PDk K g H0 b D) (mx : MX mx_ H0) (bf_mx : BF (fun b => b = 0) H0.size) (dmx : DFL (fun b => b = 0) K) (hl : p.length ≤ 4294967280) (hB : Bd 274877906944 D) :
    Ct Tryd.prog w0 24 #[ptr b, Str p] H0 (fun r H2 => ∃ K2 : List Nat, ∃ g2 : Gh, r = .int .i64 ((D.syncDir p).1 : Int) ∧ (PDk K2 g2 H2 b (D.syncDir p).2) ∧ (NxK K H0.size K2) ∧ Mo (Ms K) H0 H2) := by
  refine Ct.enter (args := [ptr b, Str p]) Tryd.func24 rfl rfl rfl ?_
  intro Q0 hret
  have hm0 : Mo (Ms K) H0 H0 := Mo.refl _ _
  have nx_hm0_hf := NxK.refl K H0.size
  have hbk_hf := hf.bk
  have hop0 := hB.op
  have hdm0 := hf.dml
  obtain ⟨D1, hD1⟩ : ∃ D1, D1 = D.begin.2 := ⟨_, rfl⟩
  have hB1 := hB.begin
  rw [← hD1] at hB1
  refine CW.seq (fun K1 hK1 hE1 => ?_)
  refine CW.region ?_
  refine LR.v (Y.assign rfl rfl) (Wd.u rfl) rfl rfl ?_
  refine LR.nil ?_
  refine hK1 _ _ ?_
  refine CW.seq (fun K2 hK2 hE2 => ?_)
  refine CW.seq (fun K3 hK3 hE3 => ?_)
  refine CW.region ?_
  refine LR.v (Y.move rfl rfl) (Wd.u rfl) rfl rfl ?_
  -- call (*selvage/simfs.FS).begin
  refine LR.call rfl Tryd.call38 rfl (Wd.u rfl) rfl rfl (begin_ct K g b D w0 _ hf (by omega)) (fun v7 H7 r7 => ?_)
  obtain ⟨g1, rfl, hf, hg1, hs7⟩ := r7
  replace mx := mx.upL hs7 (dmx)
  replace hm0 := hm0.trL hs7 (MIL.ofK (nx_hm0_hf) (by intro k hk; simp [hk]))
  have hz1 := hs7.size
  rw [← hD1] at hf
  refine LR.v (Y.not rfl rfl) (Wd.u rfl) rfl rfl ?_
  refine LR.nil ?_
  refine hK3 _ _ ?_
  refine CW.cond rfl (fun c8 => ?_) (fun c8 => ?_)
  ·
    refine CW.seq (fun K4 hK4 hE4 => ?_)
    refine CW.region ?_
    refine LR.v (Y.assign rfl rfl) (Wd.u rfl) rfl rfl ?_
    refine LR.nil ?_
    refine hK4 _ _ ?_
    refine CW.ret (hE2 .ret nofun _ _ (hret .ret (.inr rfl) _ _ _ (res1 rfl rfl) ?_))
    have hdd := sd_dead (p := p) (show D.begin.1 = false by simpa using c8)
    exact ⟨_, _, by rw [hdd]; rfl, by rw [hdd]; rw [hD1] at hf; exact hf, nx_hm0_hf, hm0⟩
  ·
    have hgo : D.begin.1 = true := by simpa using c8
    have hops := (begin_true hgo).1
    rw [← hD1] at hops
    have hlay := sd_go (p := p) hgo
    rw [← hD1] at hlay
    refine CW.skip ?_
    refine hK2 _ _ ?_
    refine CW.seq (fun K5 hK5 hE5 => ?_)
    refine CW.seq (fun K6 hK6 hE6 => ?_)
    refine CW.region ?_
    refine LR.v (Y.move rfl rfl) (Wd.u rfl) rfl rfl ?_
    refine LR.v (Y.sneq rfl rfl rfl) (Wd.u rfl) rfl rfl ?_
    refine LR.v (Y.move rfl rfl) (Wd.u rfl) rfl rfl ?_
    refine LR.splitp (d := 11) rfl (fun g11 => ?_) (fun g11 => ?_)
    ·
      refine LR.v (Y.move rfl rfl) (Wd.g rfl rfl rfl) rfl rfl ?_
      -- call selvage/simfs.Name
      refine LR.call rfl Tryd.call12 rfl (Wd.g rfl rfl rfl) rfl rfl (name_ct mx_ p w0 _ mx (bf_mx.mono (by omega)) hl) (fun v13 H13 r13 => ?_)
      obtain ⟨rfl, hs13⟩ := r13
      replace hf := hf.nw hs13
      replace mx := mx.nw hs13
      replace hm0 := hm0.trN hs13
      have hz2 := hs13.size
      refine LR.v (Y.not rfl rfl) (Wd.g rfl rfl rfl) rfl rfl ?_
      refine LR.v (Y.pick_t rfl rfl rfl) (Wd.u rfl) rfl rfl ?_
      refine LR.nil ?_
      refine hK6 _ _ ?_
      refine CW.cond rfl (fun c15 => ?_) (fun c15 => ?_)
      ·
        refine CW.seq (fun K7 hK7 hE7 => ?_)
        refine CW.region ?_
        refine LR.v (Y.assign rfl rfl) (Wd.u rfl) rfl rfl ?_
        refine LR.nil ?_
        refine hK7 _ _ ?_
        refine CW.ret (hE5 .ret nofun _ _ (hret .ret (.inr rfl) _ _ _ (res1 rfl rfl) ?_))
        have hE : dirE p = 7 := by unfold dirE; rw [if_pos ⟨g11, by simpa using c15⟩]
        exact ⟨_, _, by rw [hlay, hE]; rfl, by rw [hlay, hE]; exact hf, nx_hm0_hf, hm0⟩
      ·
        refine CW.skip ?_
        refine hK5 _ _ ?_
        refine CW.seq (fun K8 hK8 hE8 => ?_)
        refine CW.region ?_
        refine LR.v (Y.move rfl rfl) (Wd.u rfl) rfl rfl ?_
        refine LR.v (Y.move rfl rfl) (Wd.u rfl) rfl rfl ?_
        -- call (*selvage/simfs.FS).dir
        refine LR.call rfl Tryd.call39 rfl (Wd.u rfl) rfl rfl (mkdir_ct K g1 b D1 p w0 _ hf (by rw [hg1.2.2.2]; omega)) (fun v18 H18 r18 => ?_)
        have ql1 := hf.bk
        obtain ⟨K18, g18, db, rfl, hf, hkd18, hdb, hg18, hs18⟩ := r18
        have df2 := DFL.appK (dmx) (bf_mx.mono hm0.size) hkd18
        have nx3 : NxK K H0.size K18 := NxK.tr (nx_hm0_hf) hkd18 hm0.size
        replace mx := mx.upL hs18 (dmx)
        replace hm0 := hm0.trL hs18 (MIL.ofK (nx_hm0_hf) (by intro k hk; simp [hk]))
        have hz3 := hs18.size
        have hbk_hf := hf.bk
        refine LR.v (Y.assign rfl rfl) (Wd.u rfl) rfl rfl ?_
        refine LR.nil ?_
        refine hK8 _ _ ?_
        refine CW.seq (fun K9 hK9 hE9 => ?_)
        obtain ⟨nbB, sbB, kcB, svB, nmB, smB, hdB⟩ := hf.dirs _ db hdb
        have hop : Mo (Ms [(db + 1)]) H18 H18 := Mo.refl _ _
        have km4 : KM K18 (db + 1) := (hf.km1 hdB.rd (by simp))
        have vd := hdB.vd
        have hlt_vd := vd.lt
        have df5 := DFL.at (df2) km4
        have nx6 : MI K H0.size (db + 1) := MIL.at (MIL.ofK (nx3) (by intro k hk; simp [hk])) km4
        have nx7 := Nx.refl (db + 1) H18.size
        refine CW.region ?_
        refine LR.v (Y.move rfl rfl) (Wd.u rfl) rfl rfl ?_
        refine LR.v (Y.move rfl rfl) (Wd.u rfl) rfl rfl ?_
        refine LR.v (Y.move rfl rfl) (Wd.u rfl) rfl rfl ?_
        refine LR.v (Y.nilCheck rfl rfl) (Wd.u rfl) rfl rfl ?_
        refine LR.v (Y.fieldAddr vd.pt rfl Tryd.runUnderlying84 rfl rfl Tryd.sizeOf81 (by decide) rfl) (Wd.u rfl) rfl rfl ?_
        refine LR.v (Y.fieldAddr vd.pt rfl Tryd.runUnderlying81 rfl rfl Tryd.sizeOf79 (by decide) rfl) (Wd.u rfl) rfl rfl ?_
        refine LR.v (Y.load1 vd.pt rfl Tryd.isAgg79 rfl) (Wd.u rfl) rfl rfl ?_
        -- call maps.Clone[selvage/simfs.names,string,*selvage/simfs.file]
        refine LR.call rfl Tryd.call40 rfl (Wd.u rfl) rfl rfl (mclone_ct nbB nmB w0 _ hdB.hn) (fun v26 H26 r26 => ?_)
        obtain ⟨b26, rfl, hm26, hk26, hs26⟩ := r26
        have df8 := DF.app (DF.z) (bf_mx.mono hm0.size) hk26
        have dj9 : Dj (db + 1) (b26 + 1) := Dj.app (Dj.z) vd.lt hk26
        have nx10 : Nx 0 H0.size (b26 + 1) := Nx.tr (Nx.refl 0 _) hk26 hm0.size
        have nx11 : Nx 0 H18.size (b26 + 1) := Nx.tr (Nx.refl 0 _) hk26 hop.size
        replace mx := mx.nw hs26
        replace vd := vd.nw hs26
        replace hm0 := hm0.trN hs26
        replace hop := hop.trN hs26
        have hz4 := hs26.size
        have hle_hm26 := hm26.le
        refine LR.v (Y.nilCheck rfl rfl) (Wd.u rfl) rfl rfl ?_
        refine LR.v (Y.fieldAddr vd.pt rfl Tryd.runUnderlying84 rfl rfl Tryd.sizeOf81 (by decide) rfl) (Wd.u rfl) rfl rfl ?_
        refine LR.v (Y.fieldAddr vd.pt rfl Tryd.runUnderlying81 rfl rfl Tryd.sizeOf79 (by decide) rfl) (Wd.u rfl) rfl rfl ?_
        refine LR.s (S.var1 vd 1 ([.map (some nbB), .map (some b26), svB.v]) rfl rfl rfl (rfl) Tryd.sizeOf79 (by simp) (rfl)) (Wd.u rfl) rfl (fun H6_11 r6_11 => ?_)
        obtain ⟨vd, hs6_11⟩ := r6_11
        replace hs6_11 := hs6_11.md1
        replace mx := mx.upL hs6_11 (DFL.cons df5 DFL.nil)
        replace hm26 := hm26.upL hs6_11 (DL.cons dj9.symm DL.nil)
        replace hm0 := hm0.trL hs6_11 (MIL.cons (nx6) MIL.nil)
        replace hop := hop.trL hs6_11 (MIL.cons (MI.app (MI.root (by simp)) (nx7) (Nat.le_refl _)) MIL.nil)
        have hz5 := hs6_11.size
        refine LR.v (Y.nilCheck rfl rfl) (Wd.u rfl) rfl rfl ?_
        refine LR.v (Y.fieldAddr vd.pt rfl Tryd.runUnderlying84 rfl rfl Tryd.sizeOf82 (by decide) rfl) (Wd.u rfl) rfl rfl ?_
        refine LR.s (S.var1 vd 2 ([.map (some nbB), .map (some b26), .slice none 0 0]) rfl rfl rfl (rfl) Tryd.sizeOf82 (by simp) (rfl)) (Wd.u rfl) rfl (fun H6_14 r6_14 => ?_)
        obtain ⟨vd, hs6_14⟩ := r6_14
        replace hs6_14 := hs6_14.md1
        replace mx := mx.upL hs6_14 (DFL.cons df5 DFL.nil)
        replace hm26 := hm26.upL hs6_14 (DL.cons dj9.symm DL.nil)
        replace hm0 := hm0.trL hs6_14 (MIL.cons (nx6) MIL.nil)
        replace hop := hop.trL hs6_14 (MIL.cons (MI.app (MI.root (by simp)) (nx7) (Nat.le_refl _)) MIL.nil)
        have hz6 := hs6_14.size
        refine LR.nil ?_
        have df12 : DFL _ ((b26 + 1) :: K18) := (DFL.cons (df8) (df2))
        have nx13 : NxK K H0.size ((b26 + 1) :: K18) := (NxK.cons (nx10) (nx3))
        replace hf := hf.dsync hB1.an hdb hdB hop vd hm26 (fun _ => rfl) (DL.nxK hf.bk (nx11))
        have hbk_hf := hf.bk
        refine hK9 _ _ ?_
        refine CW.seq (fun K10 hK10 hE10 => ?_)
        refine CW.region ?_
        refine LR.v (Y.assign rfl rfl) (Wd.u rfl) rfl rfl ?_
        refine LR.nil ?_
        refine hK10 _ _ ?_
        refine CW.ret (hret .ret (.inr rfl) _ _ _ (res1 rfl rfl) ?_)
        have hE : dirE p = 0 := by unfold dirE; rw [if_neg (fun h => by first | exact absurd h.1 g11 | (rw [h.2] at c15; cases c15))]
        exact ⟨_, _, by rw [hlay, hE]; rfl, by rw [hlay, hE]; exact hf, nx13, hm0⟩
    ·
      refine LR.gs rfl rfl rfl rfl rfl rfl ?_
      refine LR.gs rfl rfl rfl rfl rfl rfl ?_
      refine LR.gs rfl rfl rfl rfl rfl rfl ?_
      refine LR.v (Y.pick_f rfl rfl rfl) (Wd.u rfl) rfl rfl ?_
      refine LR.nil ?_
      refine hK6 _ _ ?_
      refine CW.cond_f rfl ?_
      refine CW.skip ?_
      refine hK5 _ _ ?_
      refine CW.seq (fun K11 hK11 hE11 => ?_)
      refine CW.region ?_
      refine LR.v (Y.move rfl rfl) (Wd.u rfl) rfl rfl ?_
      refine LR.v (Y.move rfl rfl) (Wd.u rfl) rfl rfl ?_
      -- call (*selvage/simfs.FS).dir
      refine LR.call rfl Tryd.call39 rfl (Wd.u rfl) rfl rfl (mkdir_ct K g1 b D1 p w0 _ hf (by rw [hg1.2.2.2]; omega)) (fun v18 H18 r18 => ?_)
      have ql14 := hf.bk
      obtain ⟨K18, g18, db, rfl, hf, hkd18, hdb, hg18, hs18⟩ := r18
      have df15 := DFL.appK (dmx) (bf_mx.mono hm0.size) hkd18
      have nx16 : NxK K H0.size K18 := NxK.tr (nx_hm0_hf) hkd18 hm0.size
      replace mx := mx.upL hs18 (dmx)
      replace hm0 := hm0.trL hs18 (MIL.ofK (nx_hm0_hf) (by intro k hk; simp [hk]))
      have hz7 := hs18.size
      have hbk_hf := hf.bk
      refine LR.v (Y.assign rfl rfl) (Wd.u rfl) rfl rfl ?_
      refine LR.nil ?_
      refine hK11 _ _ ?_
      refine CW.seq (fun K12 hK12 hE12 => ?_)
      obtain ⟨nbB, sbB, kcB, svB, nmB, smB, hdB⟩ := hf.dirs _ db hdb
      have hop : Mo (Ms [(db + 1)]) H18 H18 := Mo.refl _ _
      have km17 : KM K18 (db + 1) := (hf.km1 hdB.rd (by simp))
      have vd := hdB.vd
      have hlt_vd := vd.lt
      have df18 := DFL.at (df15) km17
      have nx19 : MI K H0.size (db + 1) := MIL.at (MIL.ofK (nx16) (by intro k hk; simp [hk])) km17
      have nx20 := Nx.refl (db + 1) H18.size
      refine CW.region ?_
      refine LR.v (Y.move rfl rfl) (Wd.u rfl) rfl rfl ?_
      refine LR.v (Y.move rfl rfl) (Wd.u rfl) rfl rfl ?_
      refine LR.v (Y.move rfl rfl) (Wd.u rfl) rfl rfl ?_
      refine LR.v (Y.nilCheck rfl rfl) (Wd.u rfl) rfl rfl ?_
      refine LR.v (Y.fieldAddr vd.pt rfl Tryd.runUnderlying84 rfl rfl Tryd.sizeOf81 (by decide) rfl) (Wd.u rfl) rfl rfl ?_
      refine LR.v (Y.fieldAddr vd.pt rfl Tryd.runUnderlying81 rfl rfl Tryd.sizeOf79 (by decide) rfl) (Wd.u rfl) rfl rfl ?_
      refine LR.v (Y.load1 vd.pt rfl Tryd.isAgg79 rfl) (Wd.u rfl) rfl rfl ?_
      -- call maps.Clone[selvage/simfs.names,string,*selvage/simfs.file]
      refine LR.call rfl Tryd.call40 rfl (Wd.u rfl) rfl rfl (mclone_ct nbB nmB w0 _ hdB.hn) (fun v26 H26 r26 => ?_)
      obtain ⟨b26, rfl, hm26, hk26, hs26⟩ := r26
      have df21 := DF.app (DF.z) (bf_mx.mono hm0.size) hk26
      have dj22 : Dj (db + 1) (b26 + 1) := Dj.app (Dj.z) vd.lt hk26
      have nx23 : Nx 0 H0.size (b26 + 1) := Nx.tr (Nx.refl 0 _) hk26 hm0.size
      have nx24 : Nx 0 H18.size (b26 + 1) := Nx.tr (Nx.refl 0 _) hk26 hop.size
      replace mx := mx.nw hs26
      replace vd := vd.nw hs26
      replace hm0 := hm0.trN hs26
      replace hop := hop.trN hs26
      have hz8 := hs26.size
      have hle_hm26 := hm26.le
      refine LR.v (Y.nilCheck rfl rfl) (Wd.u rfl) rfl rfl ?_
      refine LR.v (Y.fieldAddr vd.pt rfl Tryd.runUnderlying84 rfl rfl Tryd.sizeOf81 (by decide) rfl) (Wd.u rfl) rfl rfl ?_
      refine LR.v (Y.fieldAddr vd.pt rfl Tryd.runUnderlying81 rfl rfl Tryd.sizeOf79 (by decide) rfl) (Wd.u rfl) rfl rfl ?_
      refine LR.s (S.var1 vd 1 ([.map (some nbB), .map (some b26), svB.v]) rfl rfl rfl (rfl) Tryd.sizeOf79 (by simp) (rfl)) (Wd.u rfl) rfl (fun H6_11 r6_11 => ?_)
      obtain ⟨vd, hs6_11⟩ := r6_11
      replace hs6_11 := hs6_11.md1
      replace mx := mx.upL hs6_11 (DFL.cons df18 DFL.nil)
      replace hm26 := hm26.upL hs6_11 (DL.cons dj22.symm DL.nil)
      replace hm0 := hm0.trL hs6_11 (MIL.cons (nx19) MIL.nil)
      replace hop := hop.trL hs6_11 (MIL.cons (MI.app (MI.root (by simp)) (nx20) (Nat.le_refl _)) MIL.nil)
      have hz9 := hs6_11.size
      refine LR.v (Y.nilCheck rfl rfl) (Wd.u rfl) rfl rfl ?_
      refine LR.v (Y.fieldAddr vd.pt rfl Tryd.runUnderlying84 rfl rfl Tryd.sizeOf82 (by decide) rfl) (Wd.u rfl) rfl rfl ?_
      refine LR.s (S.var1 vd 2 ([.map (some nbB), .map (some b26), .slice none 0 0]) rfl rfl rfl (rfl) Tryd.sizeOf82 (by simp) (rfl)) (Wd.u rfl) rfl (fun H6_14 r6_14 => ?_)
      obtain ⟨vd, hs6_14⟩ := r6_14
      replace hs6_14 := hs6_14.md1
      replace mx := mx.upL hs6_14 (DFL.cons df18 DFL.nil)
      replace hm26 := hm26.upL hs6_14 (DL.cons dj22.symm DL.nil)
      replace hm0 := hm0.trL hs6_14 (MIL.cons (nx19) MIL.nil)
      replace hop := hop.trL hs6_14 (MIL.cons (MI.app (MI.root (by simp)) (nx20) (Nat.le_refl _)) MIL.nil)
      have hz10 := hs6_14.size
      refine LR.nil ?_
      have df25 : DFL _ ((b26 + 1) :: K18) := (DFL.cons (df21) (df15))
      have nx26 : NxK K H0.size ((b26 + 1) :: K18) := (NxK.cons (nx23) (nx16))
      replace hf := hf.dsync hB1.an hdb hdB hop vd hm26 (fun _ => rfl) (DL.nxK hf.bk (nx24))
      have hbk_hf := hf.bk
      refine hK12 _ _ ?_
      refine CW.seq (fun K13 hK13 hE13 => ?_)
      refine CW.region ?_
      refine LR.v (Y.assign rfl rfl) (Wd.u rfl) rfl rfl ?_
      refine LR.nil ?_
      refine hK13 _ _ ?_
      refine CW.ret (hret .ret (.inr rfl) _ _ _ (res1 rfl rfl) ?_)
      have hE : dirE p = 0 := by unfold dirE; rw [if_neg (fun h => by first | exact absurd h.1 g11 | (rw [h.2] at c15; cases c15))]
      exact ⟨_, _, by rw [hlay, hE]; rfl, by rw [hlay, hE]; exact hf, nx26, hm0⟩

end Go.Proofs.YtfbfjhppppoilaaDoor.SimI
