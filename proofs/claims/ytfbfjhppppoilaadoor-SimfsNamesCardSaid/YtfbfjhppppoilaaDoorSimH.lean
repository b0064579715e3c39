/-
  The disk: bytes that are laid down.
-/
import Derived.Test.YtfbfjhppppoilaaDoorSimG
namespace Go.Proofs.YtfbfjhppppoilaaDoor.SimH
open Go.Proofs.YtfbfjhppppoilaaDoor.E Go.RowKit Go.Proofs.YtfbfjhppppoilaaDoor.SimA Go.Proofs.YtfbfjhppppoilaaDoor.SimB Go.Proofs.YtfbfjhppppoilaaDoor.SimC Go.Proofs.YtfbfjhppppoilaaDoor.SimD Go.Proofs.YtfbfjhppppoilaaDoor.SimE Go.Proofs.YtfbfjhppppoilaaDoor.SimF Go.Proofs.YtfbfjhppppoilaaDoor.SimG
set_option maxRecDepth 20000
set_option linter.unusedVariables false
set_option linter.unusedSimpArgs false
set_option linter.unusedSectionVars false
set_option maxRecDepth 100000 in
theorem inf74 : Inf Tryd.prog 74 67 2 32 := ⟨Tryd.underlying74, _, _, rfl, rfl, rfl, rfl, rfl⟩

/-- a disk that is not too large -/
structure Bd (n : Nat) (D : Dk) : Prop where
  an : Asc D.now
  ast : Asc D.stays
  us : D.used ≤ 2305843009213693952
  lg : D.log.length ≤ n
  op : D.ops ≤ n
  nw : ∀ i, (fget D.fs i).now.length ≤ n
  sy : ∀ i, (fget D.fs i).stays.length ≤ n
  w : ∀ i, (fget D.fs i).w.length ≤ n
  wd : ∀ i, ∀ y ∈ (fget D.fs i).w, y.d.length ≤ n
  nl : D.now.length ≤ n
  sl : D.stays.length ≤ n
  fl : D.fs.length ≤ n
  pf : ∀ i j, (onAll ((fget D.fs i).w.take j) (fget D.fs i).stays).length ≤ n
  ld : ∀ c ∈ D.log, ∀ i, c.f = some i → dirP c.n = c.dir
theorem begin_same (D : Dk) : D.begin.2.cap = D.cap ∧ D.begin.2.most = D.most ∧ D.begin.2.fs = D.fs ∧ D.begin.2.now = D.now ∧ D.begin.2.stays = D.stays ∧ D.begin.2.log = D.log ∧ D.begin.2.ops ≤ D.ops + 1 := by
  unfold Dk.begin
  split
  · exact ⟨rfl, rfl, rfl, rfl, rfl, rfl, Nat.le_succ _⟩
  · split
    · exact ⟨rfl, rfl, rfl, rfl, rfl, rfl, Nat.le_succ _⟩
    · exact ⟨rfl, rfl, rfl, rfl, rfl, rfl, Nat.le_refl _⟩
theorem begin_true {D : Dk} (h : D.begin.1 = true) : D.begin.2.ops = D.ops + 1 ∧ D.begin.2.dead = false := by
  unfold Dk.begin at h ⊢
  split at h
  · cases h
  · rename_i h1
    split at h
    · cases h
    · rename_i h2
      rw [if_neg h1, if_neg h2]
      exact ⟨rfl, by simpa using h1⟩
theorem Bd.mono {n m : Nat} {D : Dk} (h : Bd n D) (hm : n ≤ m) : Bd m D := ⟨h.an, h.ast, h.us, Nat.le_trans h.lg hm, Nat.le_trans h.op hm, fun i => Nat.le_trans (h.nw i) hm, fun i => Nat.le_trans (h.sy i) hm, fun i => Nat.le_trans (h.w i) hm, fun i y hy => Nat.le_trans (h.wd i y hy) hm, Nat.le_trans h.nl hm, Nat.le_trans h.sl hm, Nat.le_trans h.fl hm, fun i j => Nat.le_trans (h.pf i j) hm, h.ld⟩
theorem Bd.begin {n : Nat} {D : Dk} (h : Bd n D) : Bd (n + 1) D.begin.2 := by
  obtain ⟨e1, e2, e3, e4, e5, e6, e7⟩ := begin_same D
  have h := h.mono (Nat.le_succ n)
  exact ⟨by rw [e4]; exact h.an, by rw [e5]; exact h.ast, by unfold Dk.used; rw [e3, e4]; exact h.us, by rw [e6]; exact h.lg, by have := Bd.op ‹Bd n D›; omega, by rw [e3]; exact h.nw, by rw [e3]; exact h.sy, by rw [e3]; exact h.w, by rw [e3]; exact h.wd, by rw [e4]; exact h.nl, by rw [e5]; exact h.sl, by rw [e3]; exact h.fl, by rw [e3]; exact h.pf, by rw [e6]; exact h.ld⟩
theorem look_0 {D : Dk} {p : Pth} (h : D.look p = 0) : nameB p = true ∧ ∃ i, mget D.now p = some i := by
  unfold Dk.look at h
  cases hn : nameB p with
  | false => rw [hn] at h; simp at h
  | true =>
    rw [hn] at h
    cases hq : mget D.now p with
    | none => rw [hq] at h; simp at h
    | some i => exact ⟨rfl, i, rfl⟩
theorem look_2 {D : Dk} {p : Pth} (h : D.look p = 2) : nameB p = true ∧ mget D.now p = none := by
  unfold Dk.look at h
  cases hn : nameB p with
  | false => rw [hn] at h; simp at h
  | true =>
    rw [hn] at h
    cases hq : mget D.now p with
    | none => exact ⟨rfl, rfl⟩
    | some i => rw [hq] at h; simp at h
theorem look_7 {D : Dk} {p : Pth} (h : D.look p = 7) : nameB p = false := by
  unfold Dk.look at h
  cases hn : nameB p with
  | false => rfl
  | true =>
    rw [hn] at h
    cases hq : mget D.now p with
    | none => rw [hq] at h; simp at h
    | some i => rw [hq] at h; simp at h
theorem look_or (D : Dk) (p : Pth) : D.look p = 0 ∨ D.look p = 2 ∨ D.look p = 7 := by
  unfold Dk.look
  split
  · split
    · exact .inl rfl
    · exact .inr (.inl rfl)
  · exact .inr (.inr rfl)
theorem on_len (w : Wr) (b : List UInt8) : (w.on b w.d.length).length = (if w.b = true then b.length else 0) + w.d.length := by
  unfold Wr.on; rw [List.length_append, List.length_take, Nat.min_self]; split <;> rfl
theorem fget_put {D : Dk} {i : Nat} {x : Fdt} (h : i < D.fs.length) : fget (D.putF i x).fs i = x := by simp [fget, Dk.putF, List.getD, h]
theorem fl_put {D : Dk} {i : Nat} {x : Fdt} : (D.putF i x).fs.length = D.fs.length := by simp [Dk.putF]
theorem put_put {D : Dk} {i : Nat} {x y : Fdt} : (D.putF i x).putF i y = D.putF i y := by simp [Dk.putF]
/-- what 'lay' answers, and does -/
theorem lay_dead {D : Dk} {p : Pth} {w : Wr} (h : D.begin.1 = false) : D.lay p w = (11, D.begin.2) := by unfold Dk.lay; simp [h]
theorem lay_go {D : Dk} {p : Pth} {w : Wr} (h : D.begin.1 = true) : D.lay p w = (D.begin.2.layE p w, if D.begin.2.layE p w = 0 then D.begin.2.write p w else D.begin.2) := by unfold Dk.lay; simp [h]
theorem layE_7 {D : Dk} {p : Pth} {w : Wr} (h : nameB p = false) : D.layE p w = 7 := by unfold Dk.layE; rw [if_pos h]
theorem layE_5 {D : Dk} {p : Pth} {w : Wr} (h : nameB p = true) (h2 : D.most < (w.on (D.wasL p) w.d.length).length) : D.layE p w = 5 := by unfold Dk.layE; rw [if_neg (by simp [h]), if_pos h2]
theorem layE_12 {D : Dk} {p : Pth} {w : Wr} (h : nameB p = true) (h2 : ¬ D.most < (w.on (D.wasL p) w.d.length).length) (h3 : D.cap + (D.wasL p).length < D.used + (w.on (D.wasL p) w.d.length).length) : D.layE p w = 12 := by unfold Dk.layE; rw [if_neg (by simp [h]), if_neg h2, if_pos h3]
theorem layE_0 {D : Dk} {p : Pth} {w : Wr} (h : nameB p = true) (h2 : ¬ D.most < (w.on (D.wasL p) w.d.length).length) (h3 : ¬ D.cap + (D.wasL p).length < D.used + (w.on (D.wasL p) w.d.length).length) : D.layE p w = 0 := by unfold Dk.layE; rw [if_neg (by simp [h]), if_neg h2, if_neg h3]
theorem was_some {D : Dk} {p : Pth} {i : Nat} (h : mget D.now p = some i) : D.wasL p = (fget D.fs i).now := by unfold Dk.wasL; rw [h]
theorem was_none {D : Dk} {p : Pth} (h : mget D.now p = none) : D.wasL p = [] := by unfold Dk.wasL; rw [h]
theorem write_some {D : Dk} {p : Pth} {i : Nat} {w : Wr} (h : mget D.now p = some i) (hi : i < D.fs.length) :
    (D.putF i ⟨w.on (D.wasL p) w.d.length, (fget D.fs i).stays, (fget D.fs i).w⟩).putF i ⟨(fget (D.putF i ⟨w.on (D.wasL p) w.d.length, (fget D.fs i).stays, (fget D.fs i).w⟩).fs i).now, (fget (D.putF i ⟨w.on (D.wasL p) w.d.length, (fget D.fs i).stays, (fget D.fs i).w⟩).fs i).stays, (fget (D.putF i ⟨w.on (D.wasL p) w.d.length, (fget D.fs i).stays, (fget D.fs i).w⟩).fs i).w ++ [w]⟩ = D.write p w := by
  rw [fget_put hi, put_put, was_some h]
  unfold Dk.write Dk.make; rw [h]
/-- a disk with a file more -/
def mk1 (D : Dk) (p : Pth) : Dk := ({ D with fs := D.fs ++ [⟨[], [], []⟩] } : Dk).change ⟨[], p, some D.fs.length⟩
theorem mk1_get (D : Dk) (p : Pth) : fget (mk1 D p).fs D.fs.length = ⟨[], [], []⟩ := by simp [mk1, Dk.change, fget, List.getD]
theorem mk1_len (D : Dk) (p : Pth) : D.fs.length < (mk1 D p).fs.length := by simp [mk1, Dk.change]
theorem write_none {D : Dk} {p : Pth} {w : Wr} (h : mget D.now p = none) :
    ((mk1 D p).putF D.fs.length ⟨w.on (fget (mk1 D p).fs D.fs.length).now w.d.length, (fget (mk1 D p).fs D.fs.length).stays, (fget (mk1 D p).fs D.fs.length).w⟩).putF D.fs.length ⟨(fget ((mk1 D p).putF D.fs.length ⟨w.on (fget (mk1 D p).fs D.fs.length).now w.d.length, (fget (mk1 D p).fs D.fs.length).stays, (fget (mk1 D p).fs D.fs.length).w⟩).fs D.fs.length).now, (fget ((mk1 D p).putF D.fs.length ⟨w.on (fget (mk1 D p).fs D.fs.length).now w.d.length, (fget (mk1 D p).fs D.fs.length).stays, (fget (mk1 D p).fs D.fs.length).w⟩).fs D.fs.length).stays, (fget ((mk1 D p).putF D.fs.length ⟨w.on (fget (mk1 D p).fs D.fs.length).now w.d.length, (fget (mk1 D p).fs D.fs.length).stays, (fget (mk1 D p).fs D.fs.length).w⟩).fs D.fs.length).w ++ [w]⟩ = D.write p w := by
  rw [fget_put (mk1_len D p), put_put]
  unfold Dk.write Dk.make; rw [h]
  rfl

set_option maxHeartbeats 1000000 in
theorem lay_ct (mx_ : Int) (K : List Nat) (g : Gh) (b : Nat) (D : Dk) (p : Pth) (x : Wx) (F : Nat → Prop) (w0 : World) (H0 : Heap)
    (hf : PDk K g H0 b D) (mx : MX mx_ H0) (bf_mx : BF (fun b => b = 0) H0.size) (dmx : DFL (fun b => b = 0) K) (hd : Rd F H0 fB 1 x.2.v x.1.d) (bf_hd : BF F H0.size) (dfd : DFL F K) (hl : p.length ≤ 4294967280) (hB : Bd 274877906944 D) (hdl : x.1.d.length ≤ 274877906944) :
    Ct Tryd.prog w0 35 #[ptr b, Str p, wV x] H0 (fun r H2 => ∃ K2 : List Nat, ∃ g2 : Gh, r = .int .i64 ((D.lay p x.1).1 : Int) ∧ (PDk K2 g2 H2 b (D.lay p x.1).2) ∧ (NxK K H0.size K2) ∧ Mo (Ms K) H0 H2) := by
  refine Ct.enter (args := [ptr b, Str p, wV x]) Tryd.func35 rfl rfl rfl ?_
  intro Q0 hret
  have hm0 : Mo (Ms K) H0 H0 := Mo.refl _ _
  have nx_hm0_hf := NxK.refl K H0.size
  have hbk_hf := hf.bk
  have hop0 := hB.op
  have hdm0 := hf.dml
  obtain ⟨D1, hD1⟩ : ∃ D1, D1 = D.begin.2 := ⟨_, rfl⟩
  have hB1 := hB.begin
  rw [← hD1] at hB1
  refine CW.seq (fun K1 hK1 hE1 => ?_)
  refine CW.region ?_
  refine LR.z (Z.boxv rfl rfl) (Wd.u rfl) rfl rfl (fun v5 H5 r5 => ?_)
  obtain ⟨rfl, vw, hs5, ob5, hH5⟩ := r5
  have hzs5 : H5.size = H0.size + 1 := by rw [hH5]; simp
  have dj1 : DL (H0.size + 1) K := DL.newK hf.bk
  have df2 := (DF.new (bf_mx.mono hm0.size) : DF _ (H0.size + 1))
  have df3 := (DF.new (bf_hd.mono hm0.size) : DF _ (H0.size + 1))
  have nx4 : Nx 0 H0.size (H0.size + 1) := Nx.new hm0.size
  replace hf := hf.nw hs5
  replace mx := mx.nw hs5
  replace hd := hd.nw hs5
  replace hm0 := hm0.trN hs5
  have hz1 := hs5.size
  replace vw : Var 67 H5 H0.size (fW x) := vw
  refine LR.v (Y.assign rfl rfl) (Wd.u rfl) rfl rfl ?_
  refine LR.nil ?_
  refine hK1 _ _ ?_
  refine CW.seq (fun K2 hK2 hE2 => ?_)
  refine CW.seq (fun K3 hK3 hE3 => ?_)
  refine CW.region ?_
  refine LR.v (Y.move rfl rfl) (Wd.u rfl) rfl rfl ?_
  -- call (*selvage/simfs.FS).begin
  refine LR.call rfl Tryd.call38 rfl (Wd.u rfl) rfl rfl (begin_ct K g b D w0 _ hf (by omega)) (fun v12 H12 r12 => ?_)
  obtain ⟨g1, rfl, hf, hg1, hs12⟩ := r12
  replace mx := mx.upL hs12 (dmx)
  replace hd := hd.upL hs12 (dfd)
  replace vw := vw.upL hs12 (dj1)
  replace hm0 := hm0.trL hs12 (MIL.ofK (nx_hm0_hf) (by intro k hk; simp [hk]))
  have hz2 := hs12.size
  rw [← hD1] at hf
  refine LR.v (Y.not rfl rfl) (Wd.u rfl) rfl rfl ?_
  refine LR.nil ?_
  refine hK3 _ _ ?_
  refine CW.cond rfl (fun c13 => ?_) (fun c13 => ?_)
  ·
    refine CW.seq (fun K4 hK4 hE4 => ?_)
    refine CW.region ?_
    refine LR.v (Y.assign rfl rfl) (Wd.u rfl) rfl rfl ?_
    refine LR.nil ?_
    refine hK4 _ _ ?_
    refine CW.ret (hE2 .ret nofun _ _ (hret .ret (.inr rfl) _ _ _ (res1 rfl rfl) ?_))
    have hdd := lay_dead (p := p) (w := x.1) (show D.begin.1 = false by simpa using c13)
    exact ⟨_, _, by rw [hdd]; rfl, by rw [hdd]; rw [hD1] at hf; exact hf, nx_hm0_hf, hm0⟩
  ·
    have hgo : D.begin.1 = true := by simpa using c13
    have hops := (begin_true hgo).1
    rw [← hD1] at hops
    have hlo := look_or D1 p
    have hlay := lay_go (p := p) (w := x.1) hgo
    rw [← hD1] at hlay
    refine CW.skip ?_
    refine hK2 _ _ ?_
    refine CW.seq (fun K5 hK5 hE5 => ?_)
    refine CW.region ?_
    refine LR.v (Y.move rfl rfl) (Wd.u rfl) rfl rfl ?_
    refine LR.v (Y.move rfl rfl) (Wd.u rfl) rfl rfl ?_
    -- call (*selvage/simfs.FS).find
    refine LR.call rfl Tryd.call36 rfl (Wd.u rfl) rfl rfl (find_ct mx_ K g1 b D1 p w0 _ mx (bf_mx.mono (by omega)) hf hl) (fun v17 H17 r17 => ?_)
    obtain ⟨rfl, hs17⟩ := r17
    replace hf := hf.nw hs17
    replace mx := mx.nw hs17
    replace hd := hd.nw hs17
    replace vw := vw.nw hs17
    replace hm0 := hm0.trN hs17
    have hz3 := hs17.size
    refine LR.v (Y.move rfl rfl) (Wd.u rfl) rfl rfl ?_
    refine LR.v (Y.extract rfl rfl rfl) (Wd.u rfl) rfl rfl ?_
    refine LR.v (Y.extract rfl rfl rfl) (Wd.u rfl) rfl rfl ?_
    refine LR.v (Y.assign rfl rfl) (Wd.u rfl) rfl rfl ?_
    refine LR.v (Y.assign rfl rfl) (Wd.u rfl) rfl rfl ?_
    refine LR.nil ?_
    refine hK5 _ _ ?_
    refine CW.seq (fun K6 hK6 hE6 => ?_)
    refine CW.seq (fun K7 hK7 hE7 => ?_)
    refine CW.region ?_
    refine LR.v (Y.move rfl rfl) (Wd.u rfl) rfl rfl ?_
    refine LR.v (Y.eql rfl rfl rfl) (Wd.u rfl) rfl rfl ?_
    refine LR.nil ?_
    refine hK7 _ _ ?_
    refine CW.condp rfl (fun c21 => ?_) (fun c21 => ?_)
    ·
      refine CW.seq (fun K8 hK8 hE8 => ?_)
      refine CW.region ?_
      refine LR.v (Y.move rfl rfl) (Wd.u rfl) rfl rfl ?_
      refine LR.v (Y.assign rfl rfl) (Wd.u rfl) rfl rfl ?_
      refine LR.nil ?_
      refine hK8 _ _ ?_
      refine CW.ret (hE6 .ret nofun _ _ (hret .ret (.inr rfl) _ _ _ (res1 rfl rfl) ?_))
      have hE : D1.layE p x.1 = 7 := layE_7 (look_7 (D := D1) (by omega))
      exact ⟨_, _, by rw [hlay, hE]; rw [show D1.look p = 7 by omega]; rfl, by rw [hlay]; simp only [hE]; exact hf, nx_hm0_hf, hm0⟩
    ·
      refine CW.skip ?_
      refine hK6 _ _ ?_
      refine CW.seq (fun K9 hK9 hE9 => ?_)
      refine CW.region ?_
      refine LR.v (Y.assign rfl rfl) (Wd.u rfl) rfl rfl ?_
      refine LR.nil ?_
      refine hK9 _ _ ?_
      refine CW.seq (fun K10 hK10 hE10 => ?_)
      refine CW.seq (fun K11 hK11 hE11 => ?_)
      refine CW.region ?_
      refine LR.v (Y.move rfl rfl) (Wd.u rfl) rfl rfl ?_
      refine LR.v (Y.peq rfl (by kernel_rfl) (by kernel_rfl) rfl rfl) (Wd.u rfl) rfl rfl ?_
      refine LR.nil ?_
      refine hK11 _ _ ?_
      refine CW.cond rfl (fun c24 => ?_) (fun c24 => ?_)
      ·
        have hlk : D1.look p = 2 := by
          rcases hlo with h | h | h
          · obtain ⟨_, i, hi⟩ := look_0 h
            rw [if_pos h, hi] at c24; cases c24
          · exact h
          · omega
        obtain ⟨hnm, hnow⟩ := look_2 hlk
        have hwas := was_none hnow
        have hwas0 : (D1.wasL p).length = 0 := by rw [hwas]; rfl
        refine CW.region ?_
        refine LR.v (Y.build (v := .agg #[.slice none 0 0, .slice none 0 0, .slice none 0 0]) rfl rfl (by intro w; kernel_rfl)) (Wd.u rfl) rfl rfl ?_
        refine LR.z (Z.boxv rfl rfl) (Wd.u rfl) rfl rfl (fun v26 H26 r26 => ?_)
        obtain ⟨rfl, vf, hs26, ob26, hH26⟩ := r26
        have hzs26 : H26.size = H17.size + 1 := by rw [hH26]; simp
        have dj5 : DL (H17.size + 1) K := DL.newK hf.bk
        have df6 := (DF.new (bf_mx.mono hm0.size) : DF _ (H17.size + 1))
        have df7 := (DF.new (bf_hd.mono hm0.size) : DF _ (H17.size + 1))
        have dj8 : Dj (H0.size + 1) (H17.size + 1) := Dj.new vw.lt
        have nx9 : Nx 0 H0.size (H17.size + 1) := Nx.new hm0.size
        replace hf := hf.nw hs26
        replace mx := mx.nw hs26
        replace hd := hd.nw hs26
        replace vw := vw.nw hs26
        replace hm0 := hm0.trN hs26
        have hz4 := hs26.size
        replace vf : Var 76 H26 H17.size ([.slice none 0 0, .slice none 0 0, .slice none 0 0]) := vf
        refine LR.v (Y.assign rfl rfl) (Wd.u rfl) rfl rfl ?_
        refine LR.nil ?_
        refine hK10 _ _ ?_
        refine CW.seq (fun K12 hK12 hE12 => ?_)
        refine CW.region ?_
        refine LR.v (Y.fieldAddr vw.pt rfl Tryd.runUnderlying67 rfl rfl Tryd.sizeOf25 (by decide) rfl) (Wd.u rfl) rfl rfl ?_
        refine LR.v (Y.load1 (vw.pt.drop 1) rfl Tryd.isAgg25 rfl) (Wd.u rfl) rfl rfl ?_
        refine LR.v (Y.len hd rfl Tryd.runUnderlying25 rfl) (Wd.u rfl) rfl rfl ?_
        refine LR.v (Y.assign rfl rfl) (Wd.u rfl) rfl rfl ?_
        refine LR.nil ?_
        refine hK12 _ _ ?_
        refine CW.cut (fun (sz : (Nat)) => [(0, ptr b), (1, Str p), (5, .pointer (some ⟨H0.size, 0, none⟩)), (7, ptr H17.size), (8, .int .i64 (D1.look p : Int)), (9, .int .i64 (0)), (10, .int .i64 (sz : Int))])
          (fun (sz : (Nat)) (H : Heap) => (sz = (x.1.on (D1.wasL p) x.1.d.length).length) ∧ ((D1.wasL p).length ≤ 274877906945) ∧ Nw H26 H) (fun K13 hK13 hE13 => ?_) ?_
        ·
          have hcm13 : Nw H26 H26 := Mo.refl _ _
          refine CW.seq (fun K14 hK14 hE14 => ?_)
          refine CW.region ?_
          refine LR.v (Y.fieldAddr vw.pt rfl Tryd.runUnderlying67 rfl rfl Tryd.sizeOf4 (by decide) rfl) (Wd.u rfl) rfl rfl ?_
          refine LR.v (Y.load1 vw.pt rfl Tryd.isAgg4 rfl) (Wd.u rfl) rfl rfl ?_
          refine LR.nil ?_
          refine hK14 _ _ ?_
          refine CW.cond rfl (fun c37 => ?_) (fun c37 => ?_)
          ·
            refine CW.region ?_
            refine LR.v (Y.move rfl rfl) (Wd.u rfl) rfl rfl ?_
            refine LR.v (Y.move rfl rfl) (Wd.u rfl) rfl rfl ?_
            refine LR.v (Y.addi rfl rfl rfl (by omega)) (Wd.u rfl) rfl rfl ?_
            refine LR.v (Y.assign rfl rfl) (Wd.u rfl) rfl rfl ?_
            refine LR.nil ?_
            refine QN.sub (hK13 ((D1.wasL p).length + x.1.d.length) _ ?_) ⟨rfl, rfl, rfl, rfl, (iv (by omega)), (iv (by omega)), (iv (by omega)), trivial⟩
            exact ⟨by rw [on_len, if_pos c37], by first | (rw [hwas]; omega) | (rw [hwas]; simp), hcm13⟩
          ·
            refine CW.skip ?_
            refine QN.sub (hK13 x.1.d.length _ ?_) ⟨rfl, rfl, rfl, rfl, (iv (by omega)), (iv (by omega)), (iv (by omega)), trivial⟩
            exact ⟨by rw [on_len, if_neg (by simpa using c37)]; omega, by first | (rw [hwas]; omega) | (rw [hwas]; simp), hcm13⟩
        ·
          intro sz Hcutc37 hIcutc37
          obtain ⟨hsz, hwl, hlmcutc37⟩ := hIcutc37
          replace hf := hf.nw hlmcutc37
          replace mx := mx.nw hlmcutc37
          replace hd := hd.nw hlmcutc37
          replace vw := vw.nw hlmcutc37
          replace vf := vf.nw hlmcutc37
          replace hm0 := hm0.trN hlmcutc37
          have hz5 := hlmcutc37.size
          have hus := hB1.us
          have hszl : sz ≤ 274877906945 + 274877906944 := by rw [hsz, on_len]; split <;> omega
          refine CW.seq (fun K15 hK15 hE15 => ?_)
          refine CW.block (fun K16 hK16 hX16 hE16 => ?_)
          refine CW.seq (fun K17 hK17 hE17 => ?_)
          refine CW.region ?_
          refine LR.v (Y.move rfl rfl) (Wd.u rfl) rfl rfl ?_
          refine LR.v (Y.move rfl rfl) (Wd.u rfl) rfl rfl ?_
          refine LR.v (Y.nilCheck rfl rfl) (Wd.u rfl) rfl rfl ?_
          refine LR.v (Y.fieldAddr hf.vb.pt rfl Tryd.runUnderlying64 rfl rfl Tryd.sizeOf3 (by decide) rfl) (Wd.u rfl) rfl rfl ?_
          refine LR.v (Y.load1 (hf.vb.pt.drop 1) rfl Tryd.isAgg3 rfl) (Wd.u rfl) rfl rfl ?_
          refine LR.v (Y.gtr rfl rfl rfl) (Wd.u rfl) rfl rfl ?_
          refine LR.v (Y.assign rfl rfl) (Wd.u rfl) rfl rfl ?_
          refine LR.nil ?_
          refine hK17 _ _ ?_
          refine CW.condp rfl (fun c41 => ?_) (fun c41 => ?_)
          ·
            refine CW.seq (fun K18 hK18 hE18 => ?_)
            refine CW.region ?_
            refine LR.v (Y.assign rfl rfl) (Wd.u rfl) rfl rfl ?_
            refine LR.nil ?_
            refine hK18 _ _ ?_
            refine CW.ret (hE16 .ret nofun (by simp) _ _ (hE15 .ret nofun _ _ (hret .ret (.inr rfl) _ _ _ (res1 rfl rfl) ?_)))
            have hE : D1.layE p x.1 = 5 := layE_5 hnm (by omega)
            exact ⟨_, _, by rw [hlay, hE]; rfl, by rw [hlay]; simp only [hE]; exact hf, nx_hm0_hf, hm0⟩
          ·
            refine CW.seq (fun K19 hK19 hE19 => ?_)
            refine CW.region_any (fun Hq => Nw Hcutc37 Hq) [] rfl ?_
            have hqs := Nw.refl Hcutc37
            refine LH.take 0 (by kernel_rfl) rfl (by kernel_rfl) (by kernel_rfl) (by kernel_rfl) (fun Hq hq => Y.move rfl rfl) (Wd.u rfl) rfl rfl hqs ?_
            refine LH.take 2 (by kernel_rfl) rfl (by kernel_rfl) (by kernel_rfl) (by kernel_rfl) (fun Hq hq => Y.move rfl rfl) (Wd.u rfl) rfl rfl hqs ?_
            refine LH.take 4 (by kernel_rfl) rfl (by kernel_rfl) (by kernel_rfl) (by kernel_rfl) (fun Hq hq => Y.move rfl rfl) (Wd.u rfl) rfl rfl hqs ?_
            refine LH.take 6 (by kernel_rfl) rfl (by kernel_rfl) (by kernel_rfl) (by kernel_rfl) (fun Hq hq => Y.move rfl rfl) (Wd.u rfl) rfl rfl hqs ?_
            refine LH.take 7 (by kernel_rfl) rfl (by kernel_rfl) (by kernel_rfl) (by kernel_rfl) (fun Hq hq => Y.nilCheck rfl rfl) (Wd.u rfl) rfl rfl hqs ?_
            refine LH.take 8 (by kernel_rfl) rfl (by kernel_rfl) (by kernel_rfl) (by kernel_rfl) (fun Hq hq => Y.fieldAddr (hf.vb.pt.nw hq) rfl Tryd.runUnderlying64 rfl rfl Tryd.sizeOf3 (by decide) rfl) (Wd.u rfl) rfl rfl hqs ?_
            refine LH.take 9 (by kernel_rfl) rfl (by kernel_rfl) (by kernel_rfl) (by kernel_rfl) (fun Hq hq => Y.load1 ((hf.vb.pt.drop 0).nw hq) rfl Tryd.isAgg3 rfl) (Wd.u rfl) rfl rfl hqs ?_
            refine LH.one (i := 1) (by kernel_rfl) ?_
            -- call (*selvage/simfs.FS).Used
            refine LO.call rfl rfl Tryd.call19 rfl (Wd.u rfl) rfl rfl (used_ct _ _ b D1 w0 _ hf hB1.an (by omega)) (fun v50 H50 r50 => ?_)
            obtain ⟨rfl, hs50⟩ := r50
            replace hf := hf.nw hs50
            replace mx := mx.nw hs50
            replace hd := hd.nw hs50
            replace vw := vw.nw hs50
            replace vf := vf.nw hs50
            replace hm0 := hm0.trN hs50
            have hz6 := hs50.size
            have hq50 := hqs.tr hs50
            refine ⟨.inr hq50, LH.narrow (SH2 := fun Hq => Nw H50 Hq) (fun Hq hq => hq50.tr hq) ?_⟩
            have hqn50 := Nw.refl H50
            refine LH.take 3 (by kernel_rfl) rfl (by kernel_rfl) (by kernel_rfl) (by kernel_rfl) (fun Hq hq => Y.subi rfl rfl rfl (by omega)) (Wd.u rfl) rfl rfl hqn50 ?_
            refine LH.take 5 (by kernel_rfl) rfl (by kernel_rfl) (by kernel_rfl) (by kernel_rfl) (fun Hq hq => Y.addi rfl rfl rfl (by omega)) (Wd.u rfl) rfl rfl hqn50 ?_
            refine LH.take 10 (by kernel_rfl) rfl (by kernel_rfl) (by kernel_rfl) (by kernel_rfl) (fun Hq hq => Y.gtr rfl rfl rfl) (Wd.u rfl) rfl rfl hqn50 ?_
            refine LH.take 11 (by kernel_rfl) rfl (by kernel_rfl) (by kernel_rfl) (by kernel_rfl) (fun Hq hq => Y.assign rfl rfl) (Wd.u rfl) rfl rfl hqn50 ?_
            refine LH.done (by kernel_rfl) ?_
            have hqe := hqn50
            refine hK19 _ _ ?_
            refine CW.condp rfl (fun c48 => ?_) (fun c48 => ?_)
            ·
              refine CW.seq (fun K20 hK20 hE20 => ?_)
              refine CW.region ?_
              refine LR.v (Y.assign rfl rfl) (Wd.u rfl) rfl rfl ?_
              refine LR.nil ?_
              refine hK20 _ _ ?_
              refine CW.ret (hE16 .ret nofun (by simp) _ _ (hE15 .ret nofun _ _ (hret .ret (.inr rfl) _ _ _ (res1 rfl rfl) ?_)))
              have hE : D1.layE p x.1 = 12 := layE_12 hnm (by omega) (by omega)
              exact ⟨_, _, by rw [hlay, hE]; rfl, by rw [hlay]; simp only [hE]; exact hf, nx_hm0_hf, hm0⟩
            ·
              refine CW.skip ?_
              refine hK16 _ _ ?_
              refine hK15 _ _ ?_
              refine CW.seq (fun K21 hK21 hE21 => ?_)
              refine CW.seq (fun K22 hK22 hE22 => ?_)
              refine CW.region ?_
              refine LR.v (Y.move rfl rfl) (Wd.u rfl) rfl rfl ?_
              refine LR.v (Y.eql rfl rfl rfl) (Wd.u rfl) rfl rfl ?_
              refine LR.nil ?_
              refine hK22 _ _ ?_
              refine CW.condp rfl (fun c61 => ?_) (fun c61 => ?_)
              ·
                have hlen1 := hf.len
                refine CW.region ?_
                refine LR.v (Y.move rfl rfl) (Wd.u rfl) rfl rfl ?_
                refine LR.v (Y.move rfl rfl) (Wd.u rfl) rfl rfl ?_
                -- call selvage/simfs.Dir
                refine LR.call rfl Tryd.call14 rfl (Wd.u rfl) rfl rfl (dir_ct mx_ p w0 _ mx (bf_mx.mono (by omega)) hl) (fun v64 H64 r64 => ?_)
                obtain ⟨rfl, hs64⟩ := r64
                replace hf := hf.nw hs64
                replace mx := mx.nw hs64
                replace hd := hd.nw hs64
                replace vw := vw.nw hs64
                replace vf := vf.nw hs64
                replace hm0 := hm0.trN hs64
                have hz7 := hs64.size
                refine LR.v (Y.move rfl rfl) (Wd.u rfl) rfl rfl ?_
                refine LR.v (Y.move rfl rfl) (Wd.u rfl) rfl rfl ?_
                refine LR.v (Y.cast (v2 := .agg (fC (g1.fb ++ [H17.size]) ⟨[], p, some D1.fs.length⟩).toArray) (Y.build (v := .agg #[Str [], Str p, ptr H17.size]) rfl rfl (by intro w; kernel_rfl)) (by simp [fC, fpt, List.getD, ← hf.len])) (Wd.u rfl) rfl rfl ?_
                have df10 := DFL.cons (df6) (dmx)
                have df11 := DFL.cons (df7) (dfd)
                have dj12 : DL (H0.size + 1) ((H17.size + 1) :: K) := DL.cons (dj8) (dj1)
                have nx13 := NxK.cons (nx9) (nx_hm0_hf)
                replace hf := hf.newFil vf (dj5)
                have hbk_hf := hf.bk
                -- call (*selvage/simfs.FS).change
                refine LR.call rfl Tryd.call48 rfl (Wd.u rfl) rfl rfl (change_ct ((H17.size + 1) :: K) { g1 with ρ := upr g1.ρ H17.size (.fil D1.fs.length), fb := g1.fb ++ [H17.size] } b { D1 with fs := D1.fs ++ [⟨[], [], []⟩] } (dirP p) ⟨[], p, some D1.fs.length⟩ w0 _ hf (by show g1.dm.length + 1 ≤ D1.ops; rw [hg1.2.2.2]; omega) (by simp [Chg.dir]) (fun i hi => by cases hi; exact ⟨rfl, by simp⟩) (fun h => absurd rfl h) (by have := hB1.lg; show D1.log.length ≤ _; omega)) (fun v68 H68 r68 => ?_)
                have ql14 := hf.bk
                have ql15 := vw.lt
                obtain ⟨K68, g68, rfl, hf, hkd68, hg68, hs68⟩ := r68
                have df16 := DFL.appK (df10) (bf_mx.mono hm0.size) hkd68
                have df17 := DFL.appK (df11) (bf_hd.mono hm0.size) hkd68
                have dj18 : DL (H0.size + 1) K68 := DL.appK (dj12) ql15 hkd68
                have nx19 : NxK K H0.size K68 := NxK.tr (nx13) hkd68 hm0.size
                replace mx := mx.upL hs68 (df10)
                replace hd := hd.upL hs68 (df11)
                replace vw := vw.upL hs68 (dj12)
                replace hm0 := hm0.trL hs68 (MIL.ofK (nx13) (by intro k hk; simp [hk]))
                have hz8 := hs68.size
                have hbk_hf := hf.bk
                obtain ⟨i, hie⟩ : ∃ i, i = D1.fs.length := ⟨_, rfl⟩
                have hil : i < (mk1 D1 p).fs.length := by rw [hie]; exact mk1_len D1 p
                have hbi0 : g68.fb.getD i 0 = H17.size := by rw [hg68, hie]; simp [List.getD, ← hlen1]
                obtain ⟨bi, hbi, hbv⟩ : ∃ bi, g68.fb.getD i 0 = bi ∧ ptr H17.size = ptr bi := ⟨_, hbi0, rfl⟩
                have hnow2 : (fget (mk1 D1 p).fs i).now = D1.wasL p := by rw [hie, mk1_get, hwas]
                have hwi : (fget (mk1 D1 p).fs i).w.length ≤ 274877906945 := by rw [hie, mk1_get]; simp
                replace hf : PDk K68 g68 H68 b (mk1 D1 p) := hf
                refine LR.nil ?_
                refine hK21 _ _ ?_
                refine CW.seq (fun K23 hK23 hE23 => ?_)
                refine CW.region ?_
                refine LR.v (Y.fieldAddr vw.pt rfl Tryd.runUnderlying67 rfl rfl Tryd.sizeOf25 (by decide) rfl) (Wd.u rfl) rfl rfl ?_
                refine LR.v (Y.load1 (vw.pt.drop 1) rfl Tryd.isAgg25 rfl) (Wd.u rfl) rfl rfl ?_
                -- call slices.Clone[[]byte,byte]
                refine LR.call rfl Tryd.call37 rfl (Wd.u rfl) rfl rfl (bclone_ct _ x.1.d w0 _ hd.any (by omega)) (fun v71 H71 r71 => ?_)
                obtain ⟨s71, k71, rfl, ow71, hk71, hs71⟩ := r71
                have dj20 : DL k71 K68 := DL.app2 (DL.zK) hf.bk hk71
                have df21 := DF.app (DF.z) (bf_mx.mono hm0.size) hk71
                have df22 := DF.app (DF.z) (bf_hd.mono hm0.size) hk71
                have dj23 : Dj (H0.size + 1) k71 := Dj.app (Dj.z) vw.lt hk71
                have nx24 : Nx 0 H0.size k71 := Nx.tr (Nx.refl 0 _) hk71 hm0.size
                replace hf := hf.nw hs71
                replace mx := mx.nw hs71
                replace hd := hd.nw hs71
                replace vw := vw.nw hs71
                replace hm0 := hm0.trN hs71
                have hz9 := hs71.size
                have hle_ow71 := ow71.le
                refine LR.v (Y.fieldAddr vw.pt rfl Tryd.runUnderlying67 rfl rfl Tryd.sizeOf25 (by decide) rfl) (Wd.u rfl) rfl rfl ?_
                refine LR.s (S.var1 vw 1 ([.bool x.1.b, s71.v]) rfl rfl rfl (rfl) Tryd.sizeOf25 (by simp) (rfl)) (Wd.u rfl) rfl (fun H19_4 r19_4 => ?_)
                obtain ⟨vw, hs19_4⟩ := r19_4
                replace hs19_4 := hs19_4.md1
                replace hf := hf.upL hs19_4 (DKL.cons dj18 DKL.nil)
                replace mx := mx.upL hs19_4 (DFL.cons df2 DFL.nil)
                replace hd := hd.upL hs19_4 (DFL.cons df3 DFL.nil)
                replace ow71 := ow71.upL hs19_4 (DL.cons dj23.symm DL.nil)
                replace hm0 := hm0.trL hs19_4 (MIL.cons (MI.app MI.z (nx4) (Nat.le_refl _)) MIL.nil)
                have hz10 := hs19_4.size
                refine LR.nil ?_
                refine hK23 _ _ ?_
                refine CW.seq (fun K24 hK24 hE24 => ?_)
                obtain ⟨nvB, svB, wvB, kwB, lwB, hfiB⟩ := hf.fil i hil
                have hop : Mo (Ms [(bi + 1)]) H19_4 H19_4 := Mo.refl _ _
                have km25 : KM K68 (bi + 1) := (hf.kmf hfiB hbi)
                have vf2 := hfiB.atb hbi
                have hlt_vf2 := vf2.lt
                have df26 := DFL.at (df16) km25
                have df27 := DFL.at (df17) km25
                have dj28 : Dj (H0.size + 1) (bi + 1) := DL.at (dj18) km25
                have dj29 : Dj k71 (bi + 1) := DL.at (dj20) km25
                have nx30 : MI K H0.size (bi + 1) := MIL.at (MIL.ofK (nx19) (by intro k hk; simp [hk])) km25
                have nx31 := Nx.refl (bi + 1) H19_4.size
                refine CW.region_any (fun Hq => Nw H19_4 Hq) [11, 12, 13, 14] rfl ?_
                have hq20 : Nw H19_4 H19_4 := Mo.refl _ _
                refine LH.take 0 (by kernel_rfl) rfl (by kernel_rfl) (by kernel_rfl) (by kernel_rfl) (fun Hq hq => Y.cast (v2 := ptr bi) (Y.move rfl rfl) (hbv)) (Wd.u rfl) rfl rfl hq20 ?_
                refine LH.take 1 (by kernel_rfl) rfl (by kernel_rfl) (by kernel_rfl) (by kernel_rfl) (fun Hq hq => Y.loadN (vw.pt.nw hq) rfl Tryd.isAgg67 Tryd.sizeOf67 (rfl) rfl) (Wd.u rfl) rfl rfl hq20 ?_
                refine LH.take 2 (by kernel_rfl) rfl (by kernel_rfl) (by kernel_rfl) (by kernel_rfl) (fun Hq hq => Y.cast (v2 := ptr bi) (Y.move rfl rfl) (hbv)) (Wd.u rfl) rfl rfl hq20 ?_
                refine LH.take 3 (by kernel_rfl) rfl (by kernel_rfl) (by kernel_rfl) (by kernel_rfl) (fun Hq hq => Y.nilCheck rfl rfl) (Wd.u rfl) rfl rfl hq20 ?_
                refine LH.take 4 (by kernel_rfl) rfl (by kernel_rfl) (by kernel_rfl) (by kernel_rfl) (fun Hq hq => Y.fieldAddr (vf2.pt.nw hq) rfl Tryd.runUnderlying76 rfl rfl Tryd.sizeOf73 (by decide) rfl) (Wd.u rfl) rfl rfl hq20 ?_
                refine LH.take 5 (by kernel_rfl) rfl (by kernel_rfl) (by kernel_rfl) (by kernel_rfl) (fun Hq hq => Y.fieldAddr (vf2.pt.nw hq) rfl Tryd.runUnderlying73 rfl rfl Tryd.sizeOf25 (by decide) rfl) (Wd.u rfl) rfl rfl hq20 ?_
                refine LH.take 6 (by kernel_rfl) rfl (by kernel_rfl) (by kernel_rfl) (by kernel_rfl) (fun Hq hq => Y.load1 (vf2.pt.nw hq) rfl Tryd.isAgg25 rfl) (Wd.u rfl) rfl rfl hq20 ?_
                refine LH.take 7 (by kernel_rfl) rfl (by kernel_rfl) (by kernel_rfl) (by kernel_rfl) (fun Hq hq => Y.fieldAddr (vw.pt.nw hq) rfl Tryd.runUnderlying67 rfl rfl Tryd.sizeOf25 (by decide) rfl) (Wd.u rfl) rfl rfl hq20 ?_
                refine LH.take 8 (by kernel_rfl) rfl (by kernel_rfl) (by kernel_rfl) (by kernel_rfl) (fun Hq hq => Y.load1 ((vw.pt.drop 1).nw hq) rfl Tryd.isAgg25 rfl) (Wd.u rfl) rfl rfl hq20 ?_
                refine LH.take 9 (by kernel_rfl) rfl (by kernel_rfl) (by kernel_rfl) (by kernel_rfl) (fun Hq hq => Y.len (ow71.rd.nw hq) rfl Tryd.runUnderlying25 rfl) (Wd.u rfl) rfl rfl hq20 ?_
                refine LH.one (i := 10) (by kernel_rfl) ?_
                -- call (selvage/simfs.write).on
                refine LO.call rfl rfl Tryd.call60 rfl (Wd.u rfl) rfl rfl (on_ct (x.1, s71) nvB _ x.1.d.length w0 _ ow71.rd.any hfiB.hn.any (Nat.le_refl _) (by rw [hnow2]; omega)) (fun v83 H83 r83 => ?_)
                obtain ⟨s83, k83, rfl, ow83, hk83, hs83⟩ := r83
                have df32 := DF.app (DF.z) (bf_mx.mono hm0.size) hk83
                have df33 := DF.app (DF.z) (bf_hd.mono hm0.size) hk83
                have dj34 : Dj (H0.size + 1) k83 := Dj.app (Dj.z) vw.lt hk83
                have dj35 : Dj k71 k83 := Dj.app (Dj.z) ow71.le hk83
                have dj36 : Dj (bi + 1) k83 := Dj.app (Dj.z) vf2.lt hk83
                have nx37 : Nx 0 H0.size k83 := Nx.tr (Nx.refl 0 _) hk83 hm0.size
                have nx38 : Nx 0 H19_4.size k83 := Nx.tr (Nx.refl 0 _) hk83 hop.size
                have nx39 : Nx 0 H19_4.size k83 := Nx.tr (Nx.refl 0 _) hk83 hq20.size
                replace mx := mx.nw hs83
                replace hd := hd.nw hs83
                replace vw := vw.nw hs83
                replace ow71 := ow71.nw hs83
                replace vf2 := vf2.nw hs83
                replace hm0 := hm0.trN hs83
                replace hop := hop.trN hs83
                replace hq20 := hq20.tr hs83
                have hz11 := hs83.size
                have hle_ow83 := ow83.le
                refine ⟨.inr hq20, LH.narrow (SH2 := fun Hq => Mo (Ms [k83]) H83 Hq) (fun Hq hq => (Mo.trL (ks := []) (hq20.mdn []) hq (MIL.cons (MI.app MI.z (nx39) (Nat.le_refl _)) MIL.nil)).nil) ?_⟩
                have hq20 : Mo (Ms [k83]) H83 H83 := Mo.refl _ _
                have nx40 := Nx.refl k83 H83.size
                refine LH.one (i := 11) (by kernel_rfl) ?_
                refine LO.v rfl (Y.nilCheck rfl rfl) (Wd.u rfl) rfl rfl (.inl rfl) ?_
                refine LH.one (i := 12) (by kernel_rfl) ?_
                refine LO.v rfl (Y.fieldAddr vf2.pt rfl Tryd.runUnderlying76 rfl rfl Tryd.sizeOf73 (by decide) rfl) (Wd.u rfl) rfl rfl (.inl rfl) ?_
                refine LH.one (i := 13) (by kernel_rfl) ?_
                refine LO.v rfl (Y.fieldAddr vf2.pt rfl Tryd.runUnderlying73 rfl rfl Tryd.sizeOf25 (by decide) rfl) (Wd.u rfl) rfl rfl (.inl rfl) ?_
                refine LH.one (i := 14) (by kernel_rfl) ?_
                refine LO.s rfl (S.var1 vf2 0 ([s83.v, svB.v, wvB.v]) rfl rfl rfl (rfl) Tryd.sizeOf25 (by simp) (rfl)) (Wd.u rfl) rfl (fun H20_14 r20_14 => ?_)
                obtain ⟨vf2, hs20_14⟩ := r20_14
                replace hs20_14 := hs20_14.md1
                replace mx := mx.upL hs20_14 (DFL.cons df26 DFL.nil)
                replace hd := hd.upL hs20_14 (DFL.cons df27 DFL.nil)
                replace vw := vw.upL hs20_14 (DL.cons dj28 DL.nil)
                replace ow71 := ow71.upL hs20_14 (DL.cons dj29 DL.nil)
                replace ow83 := ow83.upL hs20_14 (DL.cons dj36.symm DL.nil)
                replace hm0 := hm0.trL hs20_14 (MIL.cons (nx30) MIL.nil)
                replace hop := hop.trL hs20_14 (MIL.cons (MI.app (MI.root (by simp)) (nx31) (Nat.le_refl _)) MIL.nil)
                -- LOST hq20
                have hz12 := hs20_14.size
                refine ⟨.inl rfl, ?_⟩
                refine LH.done (by kernel_rfl) ?_
                have dj41 : DL (H0.size + 1) (k83 :: K68) := (DL.cons (dj34) (dj18))
                have dj42 : DL k71 (k83 :: K68) := (DL.cons (dj35) (dj20))
                have df43 : DFL _ (k83 :: K68) := (DFL.cons (df32) (df16))
                have df44 : DFL _ (k83 :: K68) := (DFL.cons (df33) (df17))
                have nx45 : NxK K H0.size (k83 :: K68) := (NxK.cons (nx37) (nx19))
                replace hf := hf.fnow hil hfiB hbi hop vf2 ow83 (DL.nxK hf.bk (nx38))
                have hbk_hf := hf.bk
                refine hK24 _ _ ?_
                refine CW.seq (fun K25 hK25 hE25 => ?_)
                have hil2 := hil
                rw [← fl_put] at hil2
                obtain ⟨nvC, svC, wvC, kwC, lwC, hfiC⟩ := hf.fil i hil2
                have hlw : lwC.length ≤ 274877906945 := by have h9 := congrArg List.length hfiC.lw; rw [List.length_map, fget_put hil] at h9; rw [h9]; exact hwi
                have hop : Mo (Ms [(bi + 1), kwC]) H20_14 H20_14 := Mo.refl _ _
                have km46 : KM (k83 :: K68) (bi + 1) := (hf.kmf hfiC hbi)
                have vf2 := hfiC.atb hbi
                have hlt_vf2 := vf2.lt
                have df47 := DFL.at (df43) km46
                have df48 := DFL.at (df44) km46
                have dj49 : Dj (H0.size + 1) (bi + 1) := DL.at (dj41) km46
                have dj50 : Dj k71 (bi + 1) := DL.at (dj42) km46
                have nx51 : MI K H0.size (bi + 1) := MIL.at (MIL.ofK (nx45) (by intro k hk; simp [hk])) km46
                have nx52 := Nx.refl (bi + 1) H20_14.size
                have km53 : KM (k83 :: K68) kwC := (hf.km hfiC.rk (by simp))
                have hw := hfiC.hw
                have hle_hw := hw.le
                have df54 := DFL.at (df43) km53
                have df55 := DFL.at (df44) km53
                have dj56 : Dj (H0.size + 1) kwC := DL.at (dj41) km53
                have dj57 : Dj k71 kwC := DL.at (dj42) km53
                have nx58 : MI K H0.size kwC := MIL.at (MIL.ofK (nx45) (by intro k hk; simp [hk])) km53
                have nx59 := Nx.refl kwC H20_14.size
                have dj60 : Dj (bi + 1) kwC := hfiC.ne hbi
                refine CW.region_any (fun Hq => Mo (Ms [kwC]) H20_14 Hq) [8, 9, 10] rfl ?_
                have hq21 : Mo (Ms [kwC]) H20_14 H20_14 := Mo.refl _ _
                have nx61 := Nx.refl kwC H20_14.size
                refine LH.take 0 (by kernel_rfl) rfl (by kernel_rfl) (by kernel_rfl) (by kernel_rfl) (fun Hq hq => Y.cast (v2 := ptr bi) (Y.move rfl rfl) (hbv)) (Wd.u rfl) rfl rfl hq21 ?_
                refine LH.take 1 (by kernel_rfl) rfl (by kernel_rfl) (by kernel_rfl) (by kernel_rfl) (fun Hq hq => Y.cast (v2 := ptr bi) (Y.move rfl rfl) (hbv)) (Wd.u rfl) rfl rfl hq21 ?_
                refine LH.take 2 (by kernel_rfl) rfl (by kernel_rfl) (by kernel_rfl) (by kernel_rfl) (fun Hq hq => Y.nilCheck rfl rfl) (Wd.u rfl) rfl rfl hq21 ?_
                refine LH.take 3 (by kernel_rfl) rfl (by kernel_rfl) (by kernel_rfl) (by kernel_rfl) (fun Hq hq => Y.fieldAddr (vf2.upL hq (DL.cons dj60 DL.nil)).pt rfl Tryd.runUnderlying76 rfl rfl Tryd.sizeOf74 (by decide) rfl) (Wd.u rfl) rfl rfl hq21 ?_
                refine LH.take 4 (by kernel_rfl) rfl (by kernel_rfl) (by kernel_rfl) (by kernel_rfl) (fun Hq hq => Y.load1 ((vf2.upL hq (DL.cons dj60 DL.nil)).pt.drop 2) rfl Tryd.isAgg74 rfl) (Wd.u rfl) rfl rfl hq21 ?_
                refine LH.take 5 (by kernel_rfl) rfl (by kernel_rfl) (by kernel_rfl) (by kernel_rfl) (fun Hq hq => Y.loadN (vw.upL hq (DL.cons dj56 DL.nil)).pt rfl Tryd.isAgg67 Tryd.sizeOf67 (rfl) rfl) (Wd.u rfl) rfl rfl hq21 ?_
                refine LH.one (i := 6) (by kernel_rfl) ?_
                refine LO.z rfl (Z.litw _ ([(x.1, s71)]) rfl inf74 rfl rfl rfl (by decide) (by decide) fW_len fW_one (rfl)) (Wd.u rfl) rfl rfl (fun v93 H93 r93 => ?_)
                obtain ⟨ow93, hs93, ob93, hH93⟩ := r93
                have hzs93 : H93.size = H20_14.size + 1 := by rw [hH93]; simp
                have df62 := (DF.new (bf_mx.mono hm0.size) : DF _ (H20_14.size + 1))
                have df63 := (DF.new (bf_hd.mono hm0.size) : DF _ (H20_14.size + 1))
                have dj64 : Dj (H0.size + 1) (H20_14.size + 1) := Dj.new vw.lt
                have dj65 : Dj k71 (H20_14.size + 1) := Dj.new ow71.le
                have dj66 : Dj (bi + 1) (H20_14.size + 1) := Dj.new vf2.lt
                have dj67 : Dj kwC (H20_14.size + 1) := Dj.new hw.le
                have nx68 : Nx 0 H0.size (H20_14.size + 1) := Nx.new hm0.size
                have nx69 : Nx 0 H20_14.size (H20_14.size + 1) := Nx.new hop.size
                have nx70 : Nx 0 H20_14.size (H20_14.size + 1) := Nx.new hq21.size
                replace mx := mx.nw hs93
                replace hd := hd.nw hs93
                replace vw := vw.nw hs93
                replace ow71 := ow71.nw hs93
                replace vf2 := vf2.nw hs93
                replace hw := hw.nw hs93
                replace hm0 := hm0.trN hs93
                replace hop := hop.trN hs93
                replace hq21 := hq21.trN hs93
                have hz13 := hs93.size
                refine ⟨.inr hq21, LH.narrow (SH2 := fun Hq => Mo (Ms [kwC, (H20_14.size + 1)]) H93 Hq) (fun Hq hq => hq21.trL hq (MIL.cons (MI.app (MI.root (by simp)) (nx61) (Nat.le_refl _)) (MIL.cons (MI.app MI.z (nx70) (Nat.le_refl _)) MIL.nil))) ?_⟩
                have hq21 : Mo (Ms [kwC, (H20_14.size + 1)]) H93 H93 := Mo.refl _ _
                have nx71 := Nx.refl kwC H93.size
                have nx72 := Nx.refl (H20_14.size + 1) H93.size
                refine LH.one (i := 7) (by kernel_rfl) ?_
                refine LO.z rfl (Z.apnd hw ow93.rd rfl inf74 rfl rfl (by first | omega | (simp; omega)) (by first | omega | (simp; omega))) (Wd.u rfl) rfl rfl (fun v94 H94 r94 => ?_)
                obtain ⟨kw2, hw, hk94, hs94⟩ := r94
                replace hk94 : Nx kwC H93.size kw2 := hk94
                replace hs94 := hs94.md
                have df73 := DF.app (df54) (bf_mx.mono hm0.size) hk94
                have df74 := DF.app (df55) (bf_hd.mono hm0.size) hk94
                have dj75 : Dj (H0.size + 1) kw2 := Dj.app (dj56) vw.lt hk94
                have dj76 : Dj k71 kw2 := Dj.app (dj57) ow71.le hk94
                have dj77 : Dj (bi + 1) kw2 := Dj.app (dj60) vf2.lt hk94
                have dj78 : Dj (H20_14.size + 1) kw2 := Dj.app (dj67.symm) ow93.le hk94
                have nx79 : MI K H0.size kw2 := MI.app (nx58) hk94 hm0.size
                have nx80 : Nx kwC H20_14.size kw2 := Nx.tr (nx59) hk94 hop.size
                have nx81 : Nx kwC H93.size kw2 := Nx.tr (nx71) hk94 hq21.size
                replace mx := mx.upL hs94 (DFL.cons df54 DFL.nil)
                replace hd := hd.upL hs94 (DFL.cons df55 DFL.nil)
                replace vw := vw.upL hs94 (DL.cons dj56 DL.nil)
                replace ow71 := ow71.upL hs94 (DL.cons dj57 DL.nil)
                replace vf2 := vf2.upL hs94 (DL.cons dj60 DL.nil)
                replace ow93 := ow93.upL hs94 (DL.cons dj67.symm DL.nil)
                replace hm0 := hm0.trL hs94 (MIL.cons (nx58) MIL.nil)
                replace hop := hop.trL hs94 (MIL.cons (MI.app (MI.root (by simp)) (nx59) (Nat.le_refl _)) MIL.nil)
                replace hq21 := hq21.trL hs94 (MIL.cons (MI.app (MI.root (by simp)) (nx71) (Nat.le_refl _)) MIL.nil)
                have hz14 := hs94.size
                have hle_hw := hw.le
                refine ⟨.inr hq21, LH.narrow (SH2 := fun Hq => Mo (Ms [kw2, (H20_14.size + 1)]) H94 Hq) (fun Hq hq => hq21.trL hq (MIL.cons (MI.app (MI.root (by simp)) (nx81) (Nat.le_refl _)) (MIL.cons (MI.app (MI.root (by simp)) (nx72) (Nat.le_refl _)) MIL.nil))) ?_⟩
                have hq21 : Mo (Ms [kw2, (H20_14.size + 1)]) H94 H94 := Mo.refl _ _
                have nx82 := Nx.refl kw2 H94.size
                have nx83 := Nx.refl (H20_14.size + 1) H94.size
                refine LH.one (i := 8) (by kernel_rfl) ?_
                refine LO.v rfl (Y.nilCheck rfl rfl) (Wd.u rfl) rfl rfl (.inl rfl) ?_
                refine LH.one (i := 9) (by kernel_rfl) ?_
                refine LO.v rfl (Y.fieldAddr vf2.pt rfl Tryd.runUnderlying76 rfl rfl Tryd.sizeOf74 (by decide) rfl) (Wd.u rfl) rfl rfl (.inl rfl) ?_
                refine LH.one (i := 10) (by kernel_rfl) ?_
                refine LO.s rfl (S.var1 vf2 2 ([nvC.v, svC.v, v94]) rfl rfl rfl (hw.rd.oneCell) Tryd.sizeOf74 (by simp) (rfl)) (Wd.u rfl) rfl (fun H21_10 r21_10 => ?_)
                obtain ⟨vf2, hs21_10⟩ := r21_10
                replace hs21_10 := hs21_10.md1
                replace mx := mx.upL hs21_10 (DFL.cons df47 DFL.nil)
                replace hd := hd.upL hs21_10 (DFL.cons df48 DFL.nil)
                replace vw := vw.upL hs21_10 (DL.cons dj49 DL.nil)
                replace ow71 := ow71.upL hs21_10 (DL.cons dj50 DL.nil)
                replace hw := hw.upL hs21_10 (DL.cons dj77.symm DL.nil)
                replace ow93 := ow93.upL hs21_10 (DL.cons dj66.symm DL.nil)
                replace hm0 := hm0.trL hs21_10 (MIL.cons (nx51) MIL.nil)
                replace hop := hop.trL hs21_10 (MIL.cons (MI.app (MI.root (by simp)) (nx52) (Nat.le_refl _)) MIL.nil)
                -- LOST hq21
                have hz15 := hs21_10.size
                refine ⟨.inl rfl, ?_⟩
                refine LH.done (by kernel_rfl) ?_
                obtain ⟨wv2, rfl⟩ : ∃ s : SV, v94 = s.v := ⟨toSV v94, hw.sv.symm⟩
                have dj84 : DL (H0.size + 1) (k71 :: (kw2 :: (k83 :: K68))) := (DL.cons (dj23) ((DL.cons (dj75) (dj41))))
                have df85 : DFL _ (k71 :: (kw2 :: (k83 :: K68))) := (DFL.cons (df21) ((DFL.cons (df73) (df43))))
                have df86 : DFL _ (k71 :: (kw2 :: (k83 :: K68))) := (DFL.cons (df22) ((DFL.cons (df74) (df44))))
                have nx87 : NxK K H0.size (k71 :: (kw2 :: (k83 :: K68))) := (NxK.cons (nx24) ((NxK.app (nx45) (km53) (nx80) (by omega))))
                replace hf := hf.fwr hil2 hfiC hbi hop vf2 hw (nx80) ow71 (DL.cons (dj76) (dj42))
                have hbk_hf := hf.bk
                refine hK25 _ _ ?_
                refine CW.seq (fun K26 hK26 hE26 => ?_)
                refine CW.region ?_
                refine LR.v (Y.assign rfl rfl) (Wd.u rfl) rfl rfl ?_
                refine LR.nil ?_
                refine hK26 _ _ ?_
                refine CW.ret (hret .ret (.inr rfl) _ _ _ (res1 rfl rfl) ?_)
                have hE0 : D1.layE p x.1 = 0 := layE_0 hnm (by omega) (by omega)
                exact ⟨_, _, by rw [hlay, hE0]; rfl, by rw [hlay]; simp only [hE0, if_true]; first | (rw [← write_some hnow hil]; rw [← hwas] at hf; exact hf) | (rw [← write_none hnow]; subst hie; exact hf), nx87, hm0⟩
              ·
                exfalso; omega
      ·
        have hlk : D1.look p = 0 := by
          rcases hlo with h | h | h
          · exact h
          · rw [if_neg (by omega)] at c24; cases c24
          · omega
        obtain ⟨hnm, i, hnow⟩ := look_0 hlk
        have hil := hf.ids.1 p i hnow
        have hwas := was_some hnow
        obtain ⟨bi, hbi, hbv⟩ : ∃ bi, g1.fb.getD i 0 = bi ∧ .pointer (fpt g1.fb (if D1.look p = 0 then mget D1.now p else none)) = ptr bi := ⟨_, rfl, by rw [if_pos hlk, hnow]; rfl⟩
        have hnow2 := hwas.symm
        have hnwi := hB1.nw i
        have hwasl : (D1.wasL p).length ≤ 274877906945 := by rw [hwas]; exact hnwi
        have hwi := hB1.w i
        obtain ⟨nvA, svA, wvA, kwA, lwA, hfiA⟩ := hf.fil i hil
        refine CW.region ?_
        refine LR.v (Y.cast (v2 := fvl g1.fb i) (Y.move rfl rfl) (by rw [if_pos hlk, hnow]; rfl)) (Wd.u rfl) rfl rfl ?_
        refine LR.v (Y.nilCheck rfl rfl) (Wd.u rfl) rfl rfl ?_
        refine LR.v (Y.fieldAddr hfiA.vf.pt rfl Tryd.runUnderlying76 rfl rfl Tryd.sizeOf73 (by decide) rfl) (Wd.u rfl) rfl rfl ?_
        refine LR.v (Y.fieldAddr (hfiA.vf.pt.drop 0) rfl Tryd.runUnderlying73 rfl rfl Tryd.sizeOf25 (by decide) rfl) (Wd.u rfl) rfl rfl ?_
        refine LR.v (Y.load1 ((hfiA.vf.pt.drop 0).drop 0) rfl Tryd.isAgg25 rfl) (Wd.u rfl) rfl rfl ?_
        refine LR.v (Y.cast (v2 := .int .i64 ((D1.wasL p).length : Int)) (Y.len hfiA.hn rfl Tryd.runUnderlying25 rfl) (by rw [hwas])) (Wd.u rfl) rfl rfl ?_
        refine LR.v (Y.assign rfl rfl) (Wd.u rfl) rfl rfl ?_
        refine LR.nil ?_
        refine hK10 _ _ ?_
        refine CW.seq (fun K27 hK27 hE27 => ?_)
        refine CW.region ?_
        refine LR.v (Y.fieldAddr vw.pt rfl Tryd.runUnderlying67 rfl rfl Tryd.sizeOf25 (by decide) rfl) (Wd.u rfl) rfl rfl ?_
        refine LR.v (Y.load1 (vw.pt.drop 1) rfl Tryd.isAgg25 rfl) (Wd.u rfl) rfl rfl ?_
        refine LR.v (Y.len hd rfl Tryd.runUnderlying25 rfl) (Wd.u rfl) rfl rfl ?_
        refine LR.v (Y.assign rfl rfl) (Wd.u rfl) rfl rfl ?_
        refine LR.nil ?_
        refine hK27 _ _ ?_
        refine CW.cut (fun (sz : (Nat)) => [(0, ptr b), (1, Str p), (5, .pointer (some ⟨H0.size, 0, none⟩)), (7, .pointer (fpt g1.fb (if D1.look p = 0 then mget D1.now p else none))), (8, .int .i64 (D1.look p : Int)), (9, .int .i64 ((D1.wasL p).length : Int)), (10, .int .i64 (sz : Int))])
          (fun (sz : (Nat)) (H : Heap) => (sz = (x.1.on (D1.wasL p) x.1.d.length).length) ∧ ((D1.wasL p).length ≤ 274877906945) ∧ Nw H17 H) (fun K28 hK28 hE28 => ?_) ?_
        ·
          have hcm28 : Nw H17 H17 := Mo.refl _ _
          refine CW.seq (fun K29 hK29 hE29 => ?_)
          refine CW.region ?_
          refine LR.v (Y.fieldAddr vw.pt rfl Tryd.runUnderlying67 rfl rfl Tryd.sizeOf4 (by decide) rfl) (Wd.u rfl) rfl rfl ?_
          refine LR.v (Y.load1 vw.pt rfl Tryd.isAgg4 rfl) (Wd.u rfl) rfl rfl ?_
          refine LR.nil ?_
          refine hK29 _ _ ?_
          refine CW.cond rfl (fun c37 => ?_) (fun c37 => ?_)
          ·
            refine CW.region ?_
            refine LR.v (Y.move rfl rfl) (Wd.u rfl) rfl rfl ?_
            refine LR.v (Y.move rfl rfl) (Wd.u rfl) rfl rfl ?_
            refine LR.v (Y.addi rfl rfl rfl (by omega)) (Wd.u rfl) rfl rfl ?_
            refine LR.v (Y.assign rfl rfl) (Wd.u rfl) rfl rfl ?_
            refine LR.nil ?_
            refine QN.sub (hK28 ((D1.wasL p).length + x.1.d.length) _ ?_) ⟨rfl, rfl, rfl, rfl, (iv (by omega)), (iv (by omega)), (iv (by omega)), trivial⟩
            exact ⟨by rw [on_len, if_pos c37], by first | (rw [hwas]; omega) | (rw [hwas]; simp), hcm28⟩
          ·
            refine CW.skip ?_
            refine QN.sub (hK28 x.1.d.length _ ?_) ⟨rfl, rfl, rfl, rfl, (iv (by omega)), (iv (by omega)), (iv (by omega)), trivial⟩
            exact ⟨by rw [on_len, if_neg (by simpa using c37)]; omega, by first | (rw [hwas]; omega) | (rw [hwas]; simp), hcm28⟩
        ·
          intro sz Hcutc37 hIcutc37
          obtain ⟨hsz, hwl, hlmcutc37⟩ := hIcutc37
          replace hf := hf.nw hlmcutc37
          replace mx := mx.nw hlmcutc37
          replace hd := hd.nw hlmcutc37
          replace vw := vw.nw hlmcutc37
          replace hm0 := hm0.trN hlmcutc37
          have hz16 := hlmcutc37.size
          have hus := hB1.us
          have hszl : sz ≤ 274877906945 + 274877906944 := by rw [hsz, on_len]; split <;> omega
          refine CW.seq (fun K30 hK30 hE30 => ?_)
          refine CW.block (fun K31 hK31 hX31 hE31 => ?_)
          refine CW.seq (fun K32 hK32 hE32 => ?_)
          refine CW.region ?_
          refine LR.v (Y.move rfl rfl) (Wd.u rfl) rfl rfl ?_
          refine LR.v (Y.move rfl rfl) (Wd.u rfl) rfl rfl ?_
          refine LR.v (Y.nilCheck rfl rfl) (Wd.u rfl) rfl rfl ?_
          refine LR.v (Y.fieldAddr hf.vb.pt rfl Tryd.runUnderlying64 rfl rfl Tryd.sizeOf3 (by decide) rfl) (Wd.u rfl) rfl rfl ?_
          refine LR.v (Y.load1 (hf.vb.pt.drop 1) rfl Tryd.isAgg3 rfl) (Wd.u rfl) rfl rfl ?_
          refine LR.v (Y.gtr rfl rfl rfl) (Wd.u rfl) rfl rfl ?_
          refine LR.v (Y.assign rfl rfl) (Wd.u rfl) rfl rfl ?_
          refine LR.nil ?_
          refine hK32 _ _ ?_
          refine CW.condp rfl (fun c41 => ?_) (fun c41 => ?_)
          ·
            refine CW.seq (fun K33 hK33 hE33 => ?_)
            refine CW.region ?_
            refine LR.v (Y.assign rfl rfl) (Wd.u rfl) rfl rfl ?_
            refine LR.nil ?_
            refine hK33 _ _ ?_
            refine CW.ret (hE31 .ret nofun (by simp) _ _ (hE30 .ret nofun _ _ (hret .ret (.inr rfl) _ _ _ (res1 rfl rfl) ?_)))
            have hE : D1.layE p x.1 = 5 := layE_5 hnm (by omega)
            exact ⟨_, _, by rw [hlay, hE]; rfl, by rw [hlay]; simp only [hE]; exact hf, nx_hm0_hf, hm0⟩
          ·
            refine CW.seq (fun K34 hK34 hE34 => ?_)
            refine CW.region_any (fun Hq => Nw Hcutc37 Hq) [] rfl ?_
            have hqs := Nw.refl Hcutc37
            refine LH.take 0 (by kernel_rfl) rfl (by kernel_rfl) (by kernel_rfl) (by kernel_rfl) (fun Hq hq => Y.move rfl rfl) (Wd.u rfl) rfl rfl hqs ?_
            refine LH.take 2 (by kernel_rfl) rfl (by kernel_rfl) (by kernel_rfl) (by kernel_rfl) (fun Hq hq => Y.move rfl rfl) (Wd.u rfl) rfl rfl hqs ?_
            refine LH.take 4 (by kernel_rfl) rfl (by kernel_rfl) (by kernel_rfl) (by kernel_rfl) (fun Hq hq => Y.move rfl rfl) (Wd.u rfl) rfl rfl hqs ?_
            refine LH.take 6 (by kernel_rfl) rfl (by kernel_rfl) (by kernel_rfl) (by kernel_rfl) (fun Hq hq => Y.move rfl rfl) (Wd.u rfl) rfl rfl hqs ?_
            refine LH.take 7 (by kernel_rfl) rfl (by kernel_rfl) (by kernel_rfl) (by kernel_rfl) (fun Hq hq => Y.nilCheck rfl rfl) (Wd.u rfl) rfl rfl hqs ?_
            refine LH.take 8 (by kernel_rfl) rfl (by kernel_rfl) (by kernel_rfl) (by kernel_rfl) (fun Hq hq => Y.fieldAddr (hf.vb.pt.nw hq) rfl Tryd.runUnderlying64 rfl rfl Tryd.sizeOf3 (by decide) rfl) (Wd.u rfl) rfl rfl hqs ?_
            refine LH.take 9 (by kernel_rfl) rfl (by kernel_rfl) (by kernel_rfl) (by kernel_rfl) (fun Hq hq => Y.load1 ((hf.vb.pt.drop 0).nw hq) rfl Tryd.isAgg3 rfl) (Wd.u rfl) rfl rfl hqs ?_
            refine LH.one (i := 1) (by kernel_rfl) ?_
            -- call (*selvage/simfs.FS).Used
            refine LO.call rfl rfl Tryd.call19 rfl (Wd.u rfl) rfl rfl (used_ct _ _ b D1 w0 _ hf hB1.an (by omega)) (fun v50 H50 r50 => ?_)
            obtain ⟨rfl, hs50⟩ := r50
            replace hf := hf.nw hs50
            replace mx := mx.nw hs50
            replace hd := hd.nw hs50
            replace vw := vw.nw hs50
            replace hm0 := hm0.trN hs50
            have hz17 := hs50.size
            have hq50 := hqs.tr hs50
            refine ⟨.inr hq50, LH.narrow (SH2 := fun Hq => Nw H50 Hq) (fun Hq hq => hq50.tr hq) ?_⟩
            have hqn50 := Nw.refl H50
            refine LH.take 3 (by kernel_rfl) rfl (by kernel_rfl) (by kernel_rfl) (by kernel_rfl) (fun Hq hq => Y.subi rfl rfl rfl (by omega)) (Wd.u rfl) rfl rfl hqn50 ?_
            refine LH.take 5 (by kernel_rfl) rfl (by kernel_rfl) (by kernel_rfl) (by kernel_rfl) (fun Hq hq => Y.addi rfl rfl rfl (by omega)) (Wd.u rfl) rfl rfl hqn50 ?_
            refine LH.take 10 (by kernel_rfl) rfl (by kernel_rfl) (by kernel_rfl) (by kernel_rfl) (fun Hq hq => Y.gtr rfl rfl rfl) (Wd.u rfl) rfl rfl hqn50 ?_
            refine LH.take 11 (by kernel_rfl) rfl (by kernel_rfl) (by kernel_rfl) (by kernel_rfl) (fun Hq hq => Y.assign rfl rfl) (Wd.u rfl) rfl rfl hqn50 ?_
            refine LH.done (by kernel_rfl) ?_
            have hqe := hqn50
            refine hK34 _ _ ?_
            refine CW.condp rfl (fun c48 => ?_) (fun c48 => ?_)
            ·
              refine CW.seq (fun K35 hK35 hE35 => ?_)
              refine CW.region ?_
              refine LR.v (Y.assign rfl rfl) (Wd.u rfl) rfl rfl ?_
              refine LR.nil ?_
              refine hK35 _ _ ?_
              refine CW.ret (hE31 .ret nofun (by simp) _ _ (hE30 .ret nofun _ _ (hret .ret (.inr rfl) _ _ _ (res1 rfl rfl) ?_)))
              have hE : D1.layE p x.1 = 12 := layE_12 hnm (by omega) (by omega)
              exact ⟨_, _, by rw [hlay, hE]; rfl, by rw [hlay]; simp only [hE]; exact hf, nx_hm0_hf, hm0⟩
            ·
              refine CW.skip ?_
              refine hK31 _ _ ?_
              refine hK30 _ _ ?_
              refine CW.seq (fun K36 hK36 hE36 => ?_)
              refine CW.seq (fun K37 hK37 hE37 => ?_)
              refine CW.region ?_
              refine LR.v (Y.move rfl rfl) (Wd.u rfl) rfl rfl ?_
              refine LR.v (Y.eql rfl rfl rfl) (Wd.u rfl) rfl rfl ?_
              refine LR.nil ?_
              refine hK37 _ _ ?_
              refine CW.condp rfl (fun c61 => ?_) (fun c61 => ?_)
              ·
                exfalso; omega
              ·
                refine CW.skip ?_
                refine hK36 _ _ ?_
                refine CW.seq (fun K38 hK38 hE38 => ?_)
                refine CW.region ?_
                refine LR.v (Y.fieldAddr vw.pt rfl Tryd.runUnderlying67 rfl rfl Tryd.sizeOf25 (by decide) rfl) (Wd.u rfl) rfl rfl ?_
                refine LR.v (Y.load1 (vw.pt.drop 1) rfl Tryd.isAgg25 rfl) (Wd.u rfl) rfl rfl ?_
                -- call slices.Clone[[]byte,byte]
                refine LR.call rfl Tryd.call37 rfl (Wd.u rfl) rfl rfl (bclone_ct _ x.1.d w0 _ hd.any (by omega)) (fun v71 H71 r71 => ?_)
                obtain ⟨s71, k71, rfl, ow71, hk71, hs71⟩ := r71
                have dj88 : DL k71 K := DL.app2 (DL.zK) hf.bk hk71
                have df89 := DF.app (DF.z) (bf_mx.mono hm0.size) hk71
                have df90 := DF.app (DF.z) (bf_hd.mono hm0.size) hk71
                have dj91 : Dj (H0.size + 1) k71 := Dj.app (Dj.z) vw.lt hk71
                have nx92 : Nx 0 H0.size k71 := Nx.tr (Nx.refl 0 _) hk71 hm0.size
                replace hf := hf.nw hs71
                replace mx := mx.nw hs71
                replace hd := hd.nw hs71
                replace vw := vw.nw hs71
                replace hm0 := hm0.trN hs71
                have hz18 := hs71.size
                have hle_ow71 := ow71.le
                refine LR.v (Y.fieldAddr vw.pt rfl Tryd.runUnderlying67 rfl rfl Tryd.sizeOf25 (by decide) rfl) (Wd.u rfl) rfl rfl ?_
                refine LR.s (S.var1 vw 1 ([.bool x.1.b, s71.v]) rfl rfl rfl (rfl) Tryd.sizeOf25 (by simp) (rfl)) (Wd.u rfl) rfl (fun H19_4 r19_4 => ?_)
                obtain ⟨vw, hs19_4⟩ := r19_4
                replace hs19_4 := hs19_4.md1
                replace hf := hf.upL hs19_4 (DKL.cons dj1 DKL.nil)
                replace mx := mx.upL hs19_4 (DFL.cons df2 DFL.nil)
                replace hd := hd.upL hs19_4 (DFL.cons df3 DFL.nil)
                replace ow71 := ow71.upL hs19_4 (DL.cons dj91.symm DL.nil)
                replace hm0 := hm0.trL hs19_4 (MIL.cons (MI.app MI.z (nx4) (Nat.le_refl _)) MIL.nil)
                have hz19 := hs19_4.size
                refine LR.nil ?_
                refine hK38 _ _ ?_
                refine CW.seq (fun K39 hK39 hE39 => ?_)
                obtain ⟨nvB, svB, wvB, kwB, lwB, hfiB⟩ := hf.fil i hil
                have hop : Mo (Ms [(bi + 1)]) H19_4 H19_4 := Mo.refl _ _
                have km93 : KM K (bi + 1) := (hf.kmf hfiB hbi)
                have vf2 := hfiB.atb hbi
                have hlt_vf2 := vf2.lt
                have df94 := DFL.at (dmx) km93
                have df95 := DFL.at (dfd) km93
                have dj96 : Dj (H0.size + 1) (bi + 1) := DL.at (dj1) km93
                have dj97 : Dj k71 (bi + 1) := DL.at (dj88) km93
                have nx98 : MI K H0.size (bi + 1) := MIL.at (MIL.ofK (nx_hm0_hf) (by intro k hk; simp [hk])) km93
                have nx99 := Nx.refl (bi + 1) H19_4.size
                refine CW.region_any (fun Hq => Nw H19_4 Hq) [11, 12, 13, 14] rfl ?_
                have hq20 : Nw H19_4 H19_4 := Mo.refl _ _
                refine LH.take 0 (by kernel_rfl) rfl (by kernel_rfl) (by kernel_rfl) (by kernel_rfl) (fun Hq hq => Y.cast (v2 := ptr bi) (Y.move rfl rfl) (hbv)) (Wd.u rfl) rfl rfl hq20 ?_
                refine LH.take 1 (by kernel_rfl) rfl (by kernel_rfl) (by kernel_rfl) (by kernel_rfl) (fun Hq hq => Y.loadN (vw.pt.nw hq) rfl Tryd.isAgg67 Tryd.sizeOf67 (rfl) rfl) (Wd.u rfl) rfl rfl hq20 ?_
                refine LH.take 2 (by kernel_rfl) rfl (by kernel_rfl) (by kernel_rfl) (by kernel_rfl) (fun Hq hq => Y.cast (v2 := ptr bi) (Y.move rfl rfl) (hbv)) (Wd.u rfl) rfl rfl hq20 ?_
                refine LH.take 3 (by kernel_rfl) rfl (by kernel_rfl) (by kernel_rfl) (by kernel_rfl) (fun Hq hq => Y.nilCheck rfl rfl) (Wd.u rfl) rfl rfl hq20 ?_
                refine LH.take 4 (by kernel_rfl) rfl (by kernel_rfl) (by kernel_rfl) (by kernel_rfl) (fun Hq hq => Y.fieldAddr (vf2.pt.nw hq) rfl Tryd.runUnderlying76 rfl rfl Tryd.sizeOf73 (by decide) rfl) (Wd.u rfl) rfl rfl hq20 ?_
                refine LH.take 5 (by kernel_rfl) rfl (by kernel_rfl) (by kernel_rfl) (by kernel_rfl) (fun Hq hq => Y.fieldAddr (vf2.pt.nw hq) rfl Tryd.runUnderlying73 rfl rfl Tryd.sizeOf25 (by decide) rfl) (Wd.u rfl) rfl rfl hq20 ?_
                refine LH.take 6 (by kernel_rfl) rfl (by kernel_rfl) (by kernel_rfl) (by kernel_rfl) (fun Hq hq => Y.load1 (vf2.pt.nw hq) rfl Tryd.isAgg25 rfl) (Wd.u rfl) rfl rfl hq20 ?_
                refine LH.take 7 (by kernel_rfl) rfl (by kernel_rfl) (by kernel_rfl) (by kernel_rfl) (fun Hq hq => Y.fieldAddr (vw.pt.nw hq) rfl Tryd.runUnderlying67 rfl rfl Tryd.sizeOf25 (by decide) rfl) (Wd.u rfl) rfl rfl hq20 ?_
                refine LH.take 8 (by kernel_rfl) rfl (by kernel_rfl) (by kernel_rfl) (by kernel_rfl) (fun Hq hq => Y.load1 ((vw.pt.drop 1).nw hq) rfl Tryd.isAgg25 rfl) (Wd.u rfl) rfl rfl hq20 ?_
                refine LH.take 9 (by kernel_rfl) rfl (by kernel_rfl) (by kernel_rfl) (by kernel_rfl) (fun Hq hq => Y.len (ow71.rd.nw hq) rfl Tryd.runUnderlying25 rfl) (Wd.u rfl) rfl rfl hq20 ?_
                refine LH.one (i := 10) (by kernel_rfl) ?_
                -- call (selvage/simfs.write).on
                refine LO.call rfl rfl Tryd.call60 rfl (Wd.u rfl) rfl rfl (on_ct (x.1, s71) nvB _ x.1.d.length w0 _ ow71.rd.any hfiB.hn.any (Nat.le_refl _) (by rw [hnow2]; omega)) (fun v83 H83 r83 => ?_)
                obtain ⟨s83, k83, rfl, ow83, hk83, hs83⟩ := r83
                have df100 := DF.app (DF.z) (bf_mx.mono hm0.size) hk83
                have df101 := DF.app (DF.z) (bf_hd.mono hm0.size) hk83
                have dj102 : Dj (H0.size + 1) k83 := Dj.app (Dj.z) vw.lt hk83
                have dj103 : Dj k71 k83 := Dj.app (Dj.z) ow71.le hk83
                have dj104 : Dj (bi + 1) k83 := Dj.app (Dj.z) vf2.lt hk83
                have nx105 : Nx 0 H0.size k83 := Nx.tr (Nx.refl 0 _) hk83 hm0.size
                have nx106 : Nx 0 H19_4.size k83 := Nx.tr (Nx.refl 0 _) hk83 hop.size
                have nx107 : Nx 0 H19_4.size k83 := Nx.tr (Nx.refl 0 _) hk83 hq20.size
                replace mx := mx.nw hs83
                replace hd := hd.nw hs83
                replace vw := vw.nw hs83
                replace ow71 := ow71.nw hs83
                replace vf2 := vf2.nw hs83
                replace hm0 := hm0.trN hs83
                replace hop := hop.trN hs83
                replace hq20 := hq20.tr hs83
                have hz20 := hs83.size
                have hle_ow83 := ow83.le
                refine ⟨.inr hq20, LH.narrow (SH2 := fun Hq => Mo (Ms [k83]) H83 Hq) (fun Hq hq => (Mo.trL (ks := []) (hq20.mdn []) hq (MIL.cons (MI.app MI.z (nx107) (Nat.le_refl _)) MIL.nil)).nil) ?_⟩
                have hq20 : Mo (Ms [k83]) H83 H83 := Mo.refl _ _
                have nx108 := Nx.refl k83 H83.size
                refine LH.one (i := 11) (by kernel_rfl) ?_
                refine LO.v rfl (Y.nilCheck rfl rfl) (Wd.u rfl) rfl rfl (.inl rfl) ?_
                refine LH.one (i := 12) (by kernel_rfl) ?_
                refine LO.v rfl (Y.fieldAddr vf2.pt rfl Tryd.runUnderlying76 rfl rfl Tryd.sizeOf73 (by decide) rfl) (Wd.u rfl) rfl rfl (.inl rfl) ?_
                refine LH.one (i := 13) (by kernel_rfl) ?_
                refine LO.v rfl (Y.fieldAddr vf2.pt rfl Tryd.runUnderlying73 rfl rfl Tryd.sizeOf25 (by decide) rfl) (Wd.u rfl) rfl rfl (.inl rfl) ?_
                refine LH.one (i := 14) (by kernel_rfl) ?_
                refine LO.s rfl (S.var1 vf2 0 ([s83.v, svB.v, wvB.v]) rfl rfl rfl (rfl) Tryd.sizeOf25 (by simp) (rfl)) (Wd.u rfl) rfl (fun H20_14 r20_14 => ?_)
                obtain ⟨vf2, hs20_14⟩ := r20_14
                replace hs20_14 := hs20_14.md1
                replace mx := mx.upL hs20_14 (DFL.cons df94 DFL.nil)
                replace hd := hd.upL hs20_14 (DFL.cons df95 DFL.nil)
                replace vw := vw.upL hs20_14 (DL.cons dj96 DL.nil)
                replace ow71 := ow71.upL hs20_14 (DL.cons dj97 DL.nil)
                replace ow83 := ow83.upL hs20_14 (DL.cons dj104.symm DL.nil)
                replace hm0 := hm0.trL hs20_14 (MIL.cons (nx98) MIL.nil)
                replace hop := hop.trL hs20_14 (MIL.cons (MI.app (MI.root (by simp)) (nx99) (Nat.le_refl _)) MIL.nil)
                -- LOST hq20
                have hz21 := hs20_14.size
                refine ⟨.inl rfl, ?_⟩
                refine LH.done (by kernel_rfl) ?_
                have dj109 : DL (H0.size + 1) (k83 :: K) := (DL.cons (dj102) (dj1))
                have dj110 : DL k71 (k83 :: K) := (DL.cons (dj103) (dj88))
                have df111 : DFL _ (k83 :: K) := (DFL.cons (df100) (dmx))
                have df112 : DFL _ (k83 :: K) := (DFL.cons (df101) (dfd))
                have nx113 : NxK K H0.size (k83 :: K) := (NxK.cons (nx105) (nx_hm0_hf))
                replace hf := hf.fnow hil hfiB hbi hop vf2 ow83 (DL.nxK hf.bk (nx106))
                have hbk_hf := hf.bk
                refine hK39 _ _ ?_
                refine CW.seq (fun K40 hK40 hE40 => ?_)
                have hil2 := hil
                rw [← fl_put] at hil2
                obtain ⟨nvC, svC, wvC, kwC, lwC, hfiC⟩ := hf.fil i hil2
                have hlw : lwC.length ≤ 274877906945 := by have h9 := congrArg List.length hfiC.lw; rw [List.length_map, fget_put hil] at h9; rw [h9]; exact hwi
                have hop : Mo (Ms [(bi + 1), kwC]) H20_14 H20_14 := Mo.refl _ _
                have km114 : KM (k83 :: K) (bi + 1) := (hf.kmf hfiC hbi)
                have vf2 := hfiC.atb hbi
                have hlt_vf2 := vf2.lt
                have df115 := DFL.at (df111) km114
                have df116 := DFL.at (df112) km114
                have dj117 : Dj (H0.size + 1) (bi + 1) := DL.at (dj109) km114
                have dj118 : Dj k71 (bi + 1) := DL.at (dj110) km114
                have nx119 : MI K H0.size (bi + 1) := MIL.at (MIL.ofK (nx113) (by intro k hk; simp [hk])) km114
                have nx120 := Nx.refl (bi + 1) H20_14.size
                have km121 : KM (k83 :: K) kwC := (hf.km hfiC.rk (by simp))
                have hw := hfiC.hw
                have hle_hw := hw.le
                have df122 := DFL.at (df111) km121
                have df123 := DFL.at (df112) km121
                have dj124 : Dj (H0.size + 1) kwC := DL.at (dj109) km121
                have dj125 : Dj k71 kwC := DL.at (dj110) km121
                have nx126 : MI K H0.size kwC := MIL.at (MIL.ofK (nx113) (by intro k hk; simp [hk])) km121
                have nx127 := Nx.refl kwC H20_14.size
                have dj128 : Dj (bi + 1) kwC := hfiC.ne hbi
                refine CW.region_any (fun Hq => Mo (Ms [kwC]) H20_14 Hq) [8, 9, 10] rfl ?_
                have hq21 : Mo (Ms [kwC]) H20_14 H20_14 := Mo.refl _ _
                have nx129 := Nx.refl kwC H20_14.size
                refine LH.take 0 (by kernel_rfl) rfl (by kernel_rfl) (by kernel_rfl) (by kernel_rfl) (fun Hq hq => Y.cast (v2 := ptr bi) (Y.move rfl rfl) (hbv)) (Wd.u rfl) rfl rfl hq21 ?_
                refine LH.take 1 (by kernel_rfl) rfl (by kernel_rfl) (by kernel_rfl) (by kernel_rfl) (fun Hq hq => Y.cast (v2 := ptr bi) (Y.move rfl rfl) (hbv)) (Wd.u rfl) rfl rfl hq21 ?_
                refine LH.take 2 (by kernel_rfl) rfl (by kernel_rfl) (by kernel_rfl) (by kernel_rfl) (fun Hq hq => Y.nilCheck rfl rfl) (Wd.u rfl) rfl rfl hq21 ?_
                refine LH.take 3 (by kernel_rfl) rfl (by kernel_rfl) (by kernel_rfl) (by kernel_rfl) (fun Hq hq => Y.fieldAddr (vf2.upL hq (DL.cons dj128 DL.nil)).pt rfl Tryd.runUnderlying76 rfl rfl Tryd.sizeOf74 (by decide) rfl) (Wd.u rfl) rfl rfl hq21 ?_
                refine LH.take 4 (by kernel_rfl) rfl (by kernel_rfl) (by kernel_rfl) (by kernel_rfl) (fun Hq hq => Y.load1 ((vf2.upL hq (DL.cons dj128 DL.nil)).pt.drop 2) rfl Tryd.isAgg74 rfl) (Wd.u rfl) rfl rfl hq21 ?_
                refine LH.take 5 (by kernel_rfl) rfl (by kernel_rfl) (by kernel_rfl) (by kernel_rfl) (fun Hq hq => Y.loadN (vw.upL hq (DL.cons dj124 DL.nil)).pt rfl Tryd.isAgg67 Tryd.sizeOf67 (rfl) rfl) (Wd.u rfl) rfl rfl hq21 ?_
                refine LH.one (i := 6) (by kernel_rfl) ?_
                refine LO.z rfl (Z.litw _ ([(x.1, s71)]) rfl inf74 rfl rfl rfl (by decide) (by decide) fW_len fW_one (rfl)) (Wd.u rfl) rfl rfl (fun v93 H93 r93 => ?_)
                obtain ⟨ow93, hs93, ob93, hH93⟩ := r93
                have hzs93 : H93.size = H20_14.size + 1 := by rw [hH93]; simp
                have df130 := (DF.new (bf_mx.mono hm0.size) : DF _ (H20_14.size + 1))
                have df131 := (DF.new (bf_hd.mono hm0.size) : DF _ (H20_14.size + 1))
                have dj132 : Dj (H0.size + 1) (H20_14.size + 1) := Dj.new vw.lt
                have dj133 : Dj k71 (H20_14.size + 1) := Dj.new ow71.le
                have dj134 : Dj (bi + 1) (H20_14.size + 1) := Dj.new vf2.lt
                have dj135 : Dj kwC (H20_14.size + 1) := Dj.new hw.le
                have nx136 : Nx 0 H0.size (H20_14.size + 1) := Nx.new hm0.size
                have nx137 : Nx 0 H20_14.size (H20_14.size + 1) := Nx.new hop.size
                have nx138 : Nx 0 H20_14.size (H20_14.size + 1) := Nx.new hq21.size
                replace mx := mx.nw hs93
                replace hd := hd.nw hs93
                replace vw := vw.nw hs93
                replace ow71 := ow71.nw hs93
                replace vf2 := vf2.nw hs93
                replace hw := hw.nw hs93
                replace hm0 := hm0.trN hs93
                replace hop := hop.trN hs93
                replace hq21 := hq21.trN hs93
                have hz22 := hs93.size
                refine ⟨.inr hq21, LH.narrow (SH2 := fun Hq => Mo (Ms [kwC, (H20_14.size + 1)]) H93 Hq) (fun Hq hq => hq21.trL hq (MIL.cons (MI.app (MI.root (by simp)) (nx129) (Nat.le_refl _)) (MIL.cons (MI.app MI.z (nx138) (Nat.le_refl _)) MIL.nil))) ?_⟩
                have hq21 : Mo (Ms [kwC, (H20_14.size + 1)]) H93 H93 := Mo.refl _ _
                have nx139 := Nx.refl kwC H93.size
                have nx140 := Nx.refl (H20_14.size + 1) H93.size
                refine LH.one (i := 7) (by kernel_rfl) ?_
                refine LO.z rfl (Z.apnd hw ow93.rd rfl inf74 rfl rfl (by first | omega | (simp; omega)) (by first | omega | (simp; omega))) (Wd.u rfl) rfl rfl (fun v94 H94 r94 => ?_)
                obtain ⟨kw2, hw, hk94, hs94⟩ := r94
                replace hk94 : Nx kwC H93.size kw2 := hk94
                replace hs94 := hs94.md
                have df141 := DF.app (df122) (bf_mx.mono hm0.size) hk94
                have df142 := DF.app (df123) (bf_hd.mono hm0.size) hk94
                have dj143 : Dj (H0.size + 1) kw2 := Dj.app (dj124) vw.lt hk94
                have dj144 : Dj k71 kw2 := Dj.app (dj125) ow71.le hk94
                have dj145 : Dj (bi + 1) kw2 := Dj.app (dj128) vf2.lt hk94
                have dj146 : Dj (H20_14.size + 1) kw2 := Dj.app (dj135.symm) ow93.le hk94
                have nx147 : MI K H0.size kw2 := MI.app (nx126) hk94 hm0.size
                have nx148 : Nx kwC H20_14.size kw2 := Nx.tr (nx127) hk94 hop.size
                have nx149 : Nx kwC H93.size kw2 := Nx.tr (nx139) hk94 hq21.size
                replace mx := mx.upL hs94 (DFL.cons df122 DFL.nil)
                replace hd := hd.upL hs94 (DFL.cons df123 DFL.nil)
                replace vw := vw.upL hs94 (DL.cons dj124 DL.nil)
                replace ow71 := ow71.upL hs94 (DL.cons dj125 DL.nil)
                replace vf2 := vf2.upL hs94 (DL.cons dj128 DL.nil)
                replace ow93 := ow93.upL hs94 (DL.cons dj135.symm DL.nil)
                replace hm0 := hm0.trL hs94 (MIL.cons (nx126) MIL.nil)
                replace hop := hop.trL hs94 (MIL.cons (MI.app (MI.root (by simp)) (nx127) (Nat.le_refl _)) MIL.nil)
                replace hq21 := hq21.trL hs94 (MIL.cons (MI.app (MI.root (by simp)) (nx139) (Nat.le_refl _)) MIL.nil)
                have hz23 := hs94.size
                have hle_hw := hw.le
                refine ⟨.inr hq21, LH.narrow (SH2 := fun Hq => Mo (Ms [kw2, (H20_14.size + 1)]) H94 Hq) (fun Hq hq => hq21.trL hq (MIL.cons (MI.app (MI.root (by simp)) (nx149) (Nat.le_refl _)) (MIL.cons (MI.app (MI.root (by simp)) (nx140) (Nat.le_refl _)) MIL.nil))) ?_⟩
                have hq21 : Mo (Ms [kw2, (H20_14.size + 1)]) H94 H94 := Mo.refl _ _
                have nx150 := Nx.refl kw2 H94.size
                have nx151 := Nx.refl (H20_14.size + 1) H94.size
                refine LH.one (i := 8) (by kernel_rfl) ?_
                refine LO.v rfl (Y.nilCheck rfl rfl) (Wd.u rfl) rfl rfl (.inl rfl) ?_
                refine LH.one (i := 9) (by kernel_rfl) ?_
                refine LO.v rfl (Y.fieldAddr vf2.pt rfl Tryd.runUnderlying76 rfl rfl Tryd.sizeOf74 (by decide) rfl) (Wd.u rfl) rfl rfl (.inl rfl) ?_
                refine LH.one (i := 10) (by kernel_rfl) ?_
                refine LO.s rfl (S.var1 vf2 2 ([nvC.v, svC.v, v94]) rfl rfl rfl (hw.rd.oneCell) Tryd.sizeOf74 (by simp) (rfl)) (Wd.u rfl) rfl (fun H21_10 r21_10 => ?_)
                obtain ⟨vf2, hs21_10⟩ := r21_10
                replace hs21_10 := hs21_10.md1
                replace mx := mx.upL hs21_10 (DFL.cons df115 DFL.nil)
                replace hd := hd.upL hs21_10 (DFL.cons df116 DFL.nil)
                replace vw := vw.upL hs21_10 (DL.cons dj117 DL.nil)
                replace ow71 := ow71.upL hs21_10 (DL.cons dj118 DL.nil)
                replace hw := hw.upL hs21_10 (DL.cons dj145.symm DL.nil)
                replace ow93 := ow93.upL hs21_10 (DL.cons dj134.symm DL.nil)
                replace hm0 := hm0.trL hs21_10 (MIL.cons (nx119) MIL.nil)
                replace hop := hop.trL hs21_10 (MIL.cons (MI.app (MI.root (by simp)) (nx120) (Nat.le_refl _)) MIL.nil)
                -- LOST hq21
                have hz24 := hs21_10.size
                refine ⟨.inl rfl, ?_⟩
                refine LH.done (by kernel_rfl) ?_
                obtain ⟨wv2, rfl⟩ : ∃ s : SV, v94 = s.v := ⟨toSV v94, hw.sv.symm⟩
                have dj152 : DL (H0.size + 1) (k71 :: (kw2 :: (k83 :: K))) := (DL.cons (dj91) ((DL.cons (dj143) (dj109))))
                have df153 : DFL _ (k71 :: (kw2 :: (k83 :: K))) := (DFL.cons (df89) ((DFL.cons (df141) (df111))))
                have df154 : DFL _ (k71 :: (kw2 :: (k83 :: K))) := (DFL.cons (df90) ((DFL.cons (df142) (df112))))
                have nx155 : NxK K H0.size (k71 :: (kw2 :: (k83 :: K))) := (NxK.cons (nx92) ((NxK.app (nx113) (km121) (nx148) (by omega))))
                replace hf := hf.fwr hil2 hfiC hbi hop vf2 hw (nx148) ow71 (DL.cons (dj144) (dj110))
                have hbk_hf := hf.bk
                refine hK40 _ _ ?_
                refine CW.seq (fun K41 hK41 hE41 => ?_)
                refine CW.region ?_
                refine LR.v (Y.assign rfl rfl) (Wd.u rfl) rfl rfl ?_
                refine LR.nil ?_
                refine hK41 _ _ ?_
                refine CW.ret (hret .ret (.inr rfl) _ _ _ (res1 rfl rfl) ?_)
                have hE0 : D1.layE p x.1 = 0 := layE_0 hnm (by omega) (by omega)
                exact ⟨_, _, by rw [hlay, hE0]; rfl, by rw [hlay]; simp only [hE0, if_true]; first | (rw [← write_some hnow hil]; rw [← hwas] at hf; exact hf) | (rw [← write_none hnow]; subst hie; exact hf), nx155, hm0⟩

end Go.Proofs.YtfbfjhppppoilaaDoor.SimH
