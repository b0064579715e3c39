/-
  Contracts of functions of the program, and plain laws: put together of several texts.
-/
import Derived.Test.YtdliddjkacbggaaDoorGc
import Derived.RangeFuncLeaves
import Derived.RangeFuncRecord
import Derived.RangeFuncSeq
import Derived.Sort.Walk0
import Derived.Shelf.Vars
/-
  The disk: bytes that are laid down.
-/
namespace Go.Proofs.YtdliddjkacbggaaDoor.SimH
open Go.Proofs.YtdliddjkacbggaaDoor.E Go.RowKit Go.Proofs.YtdliddjkacbggaaDoor.SimA Go.Proofs.YtdliddjkacbggaaDoor.SimB Go.Proofs.YtdliddjkacbggaaDoor.SimC Go.Proofs.YtdliddjkacbggaaDoor.SimD Go.Proofs.YtdliddjkacbggaaDoor.SimE Go.Proofs.YtdliddjkacbggaaDoor.SimF Go.Proofs.YtdliddjkacbggaaDoor.SimG
set_option maxRecDepth 20000
set_option linter.unusedVariables false
set_option linter.unusedSimpArgs false
set_option linter.unusedSectionVars false
set_option maxRecDepth 100000 in
theorem inf76 : Inf Tryd.prog 76 93 2 32 := ⟨Tryd.underlying76, _, _, rfl, rfl, rfl, rfl, rfl⟩

/-- a disk that is not too large -/
structure Bd (n : Nat) (D : Dk) : Prop where
  an : Asc D.now
  ast : Asc D.stays
  us : D.used ≤ 2305843009213693952
  lg : D.log.length ≤ n
  op : D.ops ≤ n
  nw : ∀ i, (fget D.fs i).now.length ≤ n
  sy : ∀ i, (fget D.fs i).stays.length ≤ n
  w : ∀ i, (fget D.fs i).w.length ≤ n
  wd : ∀ i, ∀ y ∈ (fget D.fs i).w, y.d.length ≤ n
  nl : D.now.length ≤ n
  sl : D.stays.length ≤ n
  fl : D.fs.length ≤ n
  pf : ∀ i j, (onAll ((fget D.fs i).w.take j) (fget D.fs i).stays).length ≤ n
  ld : ∀ c ∈ D.log, ∀ i, c.f = some i → dirP c.n = c.dir
theorem begin_same (D : Dk) : D.begin.2.cap = D.cap ∧ D.begin.2.most = D.most ∧ D.begin.2.fs = D.fs ∧ D.begin.2.now = D.now ∧ D.begin.2.stays = D.stays ∧ D.begin.2.log = D.log ∧ D.begin.2.ops ≤ D.ops + 1 := by
  unfold Dk.begin
  split
  · exact ⟨rfl, rfl, rfl, rfl, rfl, rfl, Nat.le_succ _⟩
  · split
    · exact ⟨rfl, rfl, rfl, rfl, rfl, rfl, Nat.le_succ _⟩
    · exact ⟨rfl, rfl, rfl, rfl, rfl, rfl, Nat.le_refl _⟩
theorem begin_true {D : Dk} (h : D.begin.1 = true) : D.begin.2.ops = D.ops + 1 ∧ D.begin.2.dead = false := by
  unfold Dk.begin at h ⊢
  split at h
  · cases h
  · rename_i h1
    split at h
    · cases h
    · rename_i h2
      rw [if_neg h1, if_neg h2]
      exact ⟨rfl, by simpa using h1⟩
theorem Bd.mono {n m : Nat} {D : Dk} (h : Bd n D) (hm : n ≤ m) : Bd m D := ⟨h.an, h.ast, h.us, Nat.le_trans h.lg hm, Nat.le_trans h.op hm, fun i => Nat.le_trans (h.nw i) hm, fun i => Nat.le_trans (h.sy i) hm, fun i => Nat.le_trans (h.w i) hm, fun i y hy => Nat.le_trans (h.wd i y hy) hm, Nat.le_trans h.nl hm, Nat.le_trans h.sl hm, Nat.le_trans h.fl hm, fun i j => Nat.le_trans (h.pf i j) hm, h.ld⟩
theorem Bd.begin {n : Nat} {D : Dk} (h : Bd n D) : Bd (n + 1) D.begin.2 := by
  obtain ⟨e1, e2, e3, e4, e5, e6, e7⟩ := begin_same D
  have h := h.mono (Nat.le_succ n)
  exact ⟨by rw [e4]; exact h.an, by rw [e5]; exact h.ast, by unfold Dk.used; rw [e3, e4]; exact h.us, by rw [e6]; exact h.lg, by have := Bd.op ‹Bd n D›; omega, by rw [e3]; exact h.nw, by rw [e3]; exact h.sy, by rw [e3]; exact h.w, by rw [e3]; exact h.wd, by rw [e4]; exact h.nl, by rw [e5]; exact h.sl, by rw [e3]; exact h.fl, by rw [e3]; exact h.pf, by rw [e6]; exact h.ld⟩
theorem look_0 {D : Dk} {p : Pth} (h : D.look p = 0) : nameB p = true ∧ ∃ i, mget D.now p = some i := by
  unfold Dk.look at h
  cases hn : nameB p with
  | false => rw [hn] at h; simp at h
  | true =>
    rw [hn] at h
    cases hq : mget D.now p with
    | none => rw [hq] at h; simp at h
    | some i => exact ⟨rfl, i, rfl⟩
theorem look_2 {D : Dk} {p : Pth} (h : D.look p = 2) : nameB p = true ∧ mget D.now p = none := by
  unfold Dk.look at h
  cases hn : nameB p with
  | false => rw [hn] at h; simp at h
  | true =>
    rw [hn] at h
    cases hq : mget D.now p with
    | none => exact ⟨rfl, rfl⟩
    | some i => rw [hq] at h; simp at h
theorem look_7 {D : Dk} {p : Pth} (h : D.look p = 7) : nameB p = false := by
  unfold Dk.look at h
  cases hn : nameB p with
  | false => rfl
  | true =>
    rw [hn] at h
    cases hq : mget D.now p with
    | none => rw [hq] at h; simp at h
    | some i => rw [hq] at h; simp at h
theorem look_or (D : Dk) (p : Pth) : D.look p = 0 ∨ D.look p = 2 ∨ D.look p = 7 := by
  unfold Dk.look
  split
  · split
    · exact .inl rfl
    · exact .inr (.inl rfl)
  · exact .inr (.inr rfl)
theorem on_len (w : Wr) (b : List UInt8) : (w.on b w.d.length).length = (if w.b = true then b.length else 0) + w.d.length := by
  unfold Wr.on; rw [List.length_append, List.length_take, Nat.min_self]; split <;> rfl
theorem fget_put {D : Dk} {i : Nat} {x : Fdt} (h : i < D.fs.length) : fget (D.putF i x).fs i = x := by simp [fget, Dk.putF, List.getD, h]
theorem fl_put {D : Dk} {i : Nat} {x : Fdt} : (D.putF i x).fs.length = D.fs.length := by simp [Dk.putF]
theorem put_put {D : Dk} {i : Nat} {x y : Fdt} : (D.putF i x).putF i y = D.putF i y := by simp [Dk.putF]
/-- what 'lay' answers, and does -/
theorem lay_dead {D : Dk} {p : Pth} {w : Wr} (h : D.begin.1 = false) : D.lay p w = (11, D.begin.2) := by unfold Dk.lay; simp [h]
theorem lay_go {D : Dk} {p : Pth} {w : Wr} (h : D.begin.1 = true) : D.lay p w = (D.begin.2.layE p w, if D.begin.2.layE p w = 0 then D.begin.2.write p w else D.begin.2) := by unfold Dk.lay; simp [h]
theorem layE_7 {D : Dk} {p : Pth} {w : Wr} (h : nameB p = false) : D.layE p w = 7 := by unfold Dk.layE; rw [if_pos h]
theorem layE_5 {D : Dk} {p : Pth} {w : Wr} (h : nameB p = true) (h2 : D.most < (w.on (D.wasL p) w.d.length).length) : D.layE p w = 5 := by unfold Dk.layE; rw [if_neg (by simp [h]), if_pos h2]
theorem layE_12 {D : Dk} {p : Pth} {w : Wr} (h : nameB p = true) (h2 : ¬ D.most < (w.on (D.wasL p) w.d.length).length) (h3 : D.cap + (D.wasL p).length < D.used + (w.on (D.wasL p) w.d.length).length) : D.layE p w = 12 := by unfold Dk.layE; rw [if_neg (by simp [h]), if_neg h2, if_pos h3]
theorem layE_0 {D : Dk} {p : Pth} {w : Wr} (h : nameB p = true) (h2 : ¬ D.most < (w.on (D.wasL p) w.d.length).length) (h3 : ¬ D.cap + (D.wasL p).length < D.used + (w.on (D.wasL p) w.d.length).length) : D.layE p w = 0 := by unfold Dk.layE; rw [if_neg (by simp [h]), if_neg h2, if_neg h3]
theorem was_some {D : Dk} {p : Pth} {i : Nat} (h : mget D.now p = some i) : D.wasL p = (fget D.fs i).now := by unfold Dk.wasL; rw [h]
theorem was_none {D : Dk} {p : Pth} (h : mget D.now p = none) : D.wasL p = [] := by unfold Dk.wasL; rw [h]
theorem write_some {D : Dk} {p : Pth} {i : Nat} {w : Wr} (h : mget D.now p = some i) (hi : i < D.fs.length) :
    (D.putF i ⟨w.on (D.wasL p) w.d.length, (fget D.fs i).stays, (fget D.fs i).w⟩).putF i ⟨(fget (D.putF i ⟨w.on (D.wasL p) w.d.length, (fget D.fs i).stays, (fget D.fs i).w⟩).fs i).now, (fget (D.putF i ⟨w.on (D.wasL p) w.d.length, (fget D.fs i).stays, (fget D.fs i).w⟩).fs i).stays, (fget (D.putF i ⟨w.on (D.wasL p) w.d.length, (fget D.fs i).stays, (fget D.fs i).w⟩).fs i).w ++ [w]⟩ = D.write p w := by
  rw [fget_put hi, put_put, was_some h]
  unfold Dk.write Dk.make; rw [h]
/-- a disk with a file more -/
def mk1 (D : Dk) (p : Pth) : Dk := ({ D with fs := D.fs ++ [⟨[], [], []⟩] } : Dk).change ⟨[], p, some D.fs.length⟩
theorem mk1_get (D : Dk) (p : Pth) : fget (mk1 D p).fs D.fs.length = ⟨[], [], []⟩ := by simp [mk1, Dk.change, fget, List.getD]
theorem mk1_len (D : Dk) (p : Pth) : D.fs.length < (mk1 D p).fs.length := by simp [mk1, Dk.change]
theorem write_none {D : Dk} {p : Pth} {w : Wr} (h : mget D.now p = none) :
    ((mk1 D p).putF D.fs.length ⟨w.on (fget (mk1 D p).fs D.fs.length).now w.d.length, (fget (mk1 D p).fs D.fs.length).stays, (fget (mk1 D p).fs D.fs.length).w⟩).putF D.fs.length ⟨(fget ((mk1 D p).putF D.fs.length ⟨w.on (fget (mk1 D p).fs D.fs.length).now w.d.length, (fget (mk1 D p).fs D.fs.length).stays, (fget (mk1 D p).fs D.fs.length).w⟩).fs D.fs.length).now, (fget ((mk1 D p).putF D.fs.length ⟨w.on (fget (mk1 D p).fs D.fs.length).now w.d.length, (fget (mk1 D p).fs D.fs.length).stays, (fget (mk1 D p).fs D.fs.length).w⟩).fs D.fs.length).stays, (fget ((mk1 D p).putF D.fs.length ⟨w.on (fget (mk1 D p).fs D.fs.length).now w.d.length, (fget (mk1 D p).fs D.fs.length).stays, (fget (mk1 D p).fs D.fs.length).w⟩).fs D.fs.length).w ++ [w]⟩ = D.write p w := by
  rw [fget_put (mk1_len D p), put_put]
  unfold Dk.write Dk.make; rw [h]
  rfl

set_option maxHeartbeats 1000000 in
theorem lay_ct (mx_ : Int) (K : List Nat) (g : Gh) (b : Nat) (D : Dk) (p : Pth) (x : Wx) (F : Nat → Prop) (w0 : World) (H0 : Heap)
    (hf : PDk K g H0 b D) (mx : MX mx_ H0) (bf_mx : BF (fun b => b = 0) H0.size) (dmx : DFL (fun b => b = 0) K) (hd : Rd F H0 fB 1 x.2.v x.1.d) (bf_hd : BF F H0.size) (dfd : DFL F K) (hl : p.length ≤ 4294967280) (hB : Bd 274877906944 D) (hdl : x.1.d.length ≤ 274877906944) :
    Ct Tryd.prog w0 54 #[ptr b, Str p, wV x] H0 (fun r H2 => ∃ K2 : List Nat, ∃ g2 : Gh, r = .int .i64 ((D.lay p x.1).1 : Int) ∧ (PDk K2 g2 H2 b (D.lay p x.1).2) ∧ (NxK K H0.size K2) ∧ Mo (Ms K) H0 H2) := by
  refine Ct.enter (args := [ptr b, Str p, wV x]) Tryd.func54 rfl rfl rfl ?_
  intro Q0 hret
  have hm0 : Mo (Ms K) H0 H0 := Mo.refl _ _
  have nx_hm0_hf := NxK.refl K H0.size
  have hbk_hf := hf.bk
  have hop0 := hB.op
  have hdm0 := hf.dml
  obtain ⟨D1, hD1⟩ : ∃ D1, D1 = D.begin.2 := ⟨_, rfl⟩
  have hB1 := hB.begin
  rw [← hD1] at hB1
  refine CW.seq (fun K1 hK1 hE1 => ?_)
  refine CW.region ?_
  refine LR.z (Z.boxv rfl rfl) (Wd.u rfl) rfl rfl (fun v5 H5 r5 => ?_)
  obtain ⟨rfl, vw, hs5, ob5, hH5⟩ := r5
  have hzs5 : H5.size = H0.size + 1 := by rw [hH5]; simp
  have dj1 : DL (H0.size + 1) K := DL.newK hf.bk
  have df2 := (DF.new (bf_mx.mono hm0.size) : DF _ (H0.size + 1))
  have df3 := (DF.new (bf_hd.mono hm0.size) : DF _ (H0.size + 1))
  have nx4 : Nx 0 H0.size (H0.size + 1) := Nx.new hm0.size
  replace hf := hf.nw hs5
  replace mx := mx.nw hs5
  replace hd := hd.nw hs5
  replace hm0 := hm0.trN hs5
  have hz1 := hs5.size
  replace vw : Var 93 H5 H0.size (fW x) := vw
  refine LR.v (Y.assign rfl rfl) (Wd.u rfl) rfl rfl ?_
  refine LR.nil ?_
  refine hK1 _ _ ?_
  refine CW.seq (fun K2 hK2 hE2 => ?_)
  refine CW.seq (fun K3 hK3 hE3 => ?_)
  refine CW.region ?_
  refine LR.v (Y.move rfl rfl) (Wd.u rfl) rfl rfl ?_
  -- call (*selvage/simfs.FS).begin
  refine LR.call rfl Tryd.call53 rfl (Wd.u rfl) rfl rfl (begin_ct K g b D w0 _ hf (by omega)) (fun v12 H12 r12 => ?_)
  obtain ⟨g1, rfl, hf, hg1, hs12⟩ := r12
  replace mx := mx.upL hs12 (dmx)
  replace hd := hd.upL hs12 (dfd)
  replace vw := vw.upL hs12 (dj1)
  replace hm0 := hm0.trL hs12 (MIL.ofK (nx_hm0_hf) (by intro k hk; simp [hk]))
  have hz2 := hs12.size
  rw [← hD1] at hf
  refine LR.v (Y.not rfl rfl) (Wd.u rfl) rfl rfl ?_
  refine LR.nil ?_
  refine hK3 _ _ ?_
  refine CW.cond rfl (fun c13 => ?_) (fun c13 => ?_)
  ·
    refine CW.seq (fun K4 hK4 hE4 => ?_)
    refine CW.region ?_
    refine LR.v (Y.assign rfl rfl) (Wd.u rfl) rfl rfl ?_
    refine LR.nil ?_
    refine hK4 _ _ ?_
    refine CW.ret (hE2 .ret nofun _ _ (hret .ret (.inr rfl) _ _ _ (res1 rfl rfl) ?_))
    have hdd := lay_dead (p := p) (w := x.1) (show D.begin.1 = false by simpa using c13)
    exact ⟨_, _, by rw [hdd]; rfl, by rw [hdd]; rw [hD1] at hf; exact hf, nx_hm0_hf, hm0⟩
  ·
    have hgo : D.begin.1 = true := by simpa using c13
    have hops := (begin_true hgo).1
    rw [← hD1] at hops
    have hlo := look_or D1 p
    have hlay := lay_go (p := p) (w := x.1) hgo
    rw [← hD1] at hlay
    refine CW.skip ?_
    refine hK2 _ _ ?_
    refine CW.seq (fun K5 hK5 hE5 => ?_)
    refine CW.region ?_
    refine LR.v (Y.move rfl rfl) (Wd.u rfl) rfl rfl ?_
    refine LR.v (Y.move rfl rfl) (Wd.u rfl) rfl rfl ?_
    -- call (*selvage/simfs.FS).find
    refine LR.call rfl Tryd.call36 rfl (Wd.u rfl) rfl rfl (find_ct mx_ K g1 b D1 p w0 _ mx (bf_mx.mono (by omega)) hf hl) (fun v17 H17 r17 => ?_)
    obtain ⟨rfl, hs17⟩ := r17
    replace hf := hf.nw hs17
    replace mx := mx.nw hs17
    replace hd := hd.nw hs17
    replace vw := vw.nw hs17
    replace hm0 := hm0.trN hs17
    have hz3 := hs17.size
    refine LR.v (Y.move rfl rfl) (Wd.u rfl) rfl rfl ?_
    refine LR.v (Y.extract rfl rfl rfl) (Wd.u rfl) rfl rfl ?_
    refine LR.v (Y.extract rfl rfl rfl) (Wd.u rfl) rfl rfl ?_
    refine LR.v (Y.assign rfl rfl) (Wd.u rfl) rfl rfl ?_
    refine LR.v (Y.assign rfl rfl) (Wd.u rfl) rfl rfl ?_
    refine LR.nil ?_
    refine hK5 _ _ ?_
    refine CW.seq (fun K6 hK6 hE6 => ?_)
    refine CW.seq (fun K7 hK7 hE7 => ?_)
    refine CW.region ?_
    refine LR.v (Y.move rfl rfl) (Wd.u rfl) rfl rfl ?_
    refine LR.v (Y.eql rfl rfl rfl) (Wd.u rfl) rfl rfl ?_
    refine LR.nil ?_
    refine hK7 _ _ ?_
    refine CW.condp rfl (fun c21 => ?_) (fun c21 => ?_)
    ·
      refine CW.seq (fun K8 hK8 hE8 => ?_)
      refine CW.region ?_
      refine LR.v (Y.move rfl rfl) (Wd.u rfl) rfl rfl ?_
      refine LR.v (Y.assign rfl rfl) (Wd.u rfl) rfl rfl ?_
      refine LR.nil ?_
      refine hK8 _ _ ?_
      refine CW.ret (hE6 .ret nofun _ _ (hret .ret (.inr rfl) _ _ _ (res1 rfl rfl) ?_))
      have hE : D1.layE p x.1 = 7 := layE_7 (look_7 (D := D1) (by omega))
      exact ⟨_, _, by rw [hlay, hE]; rw [show D1.look p = 7 by omega]; rfl, by rw [hlay]; simp only [hE]; exact hf, nx_hm0_hf, hm0⟩
    ·
      refine CW.skip ?_
      refine hK6 _ _ ?_
      refine CW.seq (fun K9 hK9 hE9 => ?_)
      refine CW.region ?_
      refine LR.v (Y.assign rfl rfl) (Wd.u rfl) rfl rfl ?_
      refine LR.nil ?_
      refine hK9 _ _ ?_
      refine CW.seq (fun K10 hK10 hE10 => ?_)
      refine CW.seq (fun K11 hK11 hE11 => ?_)
      refine CW.region ?_
      refine LR.v (Y.move rfl rfl) (Wd.u rfl) rfl rfl ?_
      refine LR.v (Y.peq rfl (by kernel_rfl) (by kernel_rfl) rfl rfl) (Wd.u rfl) rfl rfl ?_
      refine LR.nil ?_
      refine hK11 _ _ ?_
      refine CW.cond rfl (fun c24 => ?_) (fun c24 => ?_)
      ·
        have hlk : D1.look p = 2 := by
          rcases hlo with h | h | h
          · obtain ⟨_, i, hi⟩ := look_0 h
            rw [if_pos h, hi] at c24; cases c24
          · exact h
          · omega
        obtain ⟨hnm, hnow⟩ := look_2 hlk
        have hwas := was_none hnow
        have hwas0 : (D1.wasL p).length = 0 := by rw [hwas]; rfl
        refine CW.region ?_
        refine LR.v (Y.build (v := .agg #[.slice none 0 0, .slice none 0 0, .slice none 0 0]) rfl rfl (by intro w; kernel_rfl)) (Wd.u rfl) rfl rfl ?_
        refine LR.z (Z.boxv rfl rfl) (Wd.u rfl) rfl rfl (fun v26 H26 r26 => ?_)
        obtain ⟨rfl, vf, hs26, ob26, hH26⟩ := r26
        have hzs26 : H26.size = H17.size + 1 := by rw [hH26]; simp
        have dj5 : DL (H17.size + 1) K := DL.newK hf.bk
        have df6 := (DF.new (bf_mx.mono hm0.size) : DF _ (H17.size + 1))
        have df7 := (DF.new (bf_hd.mono hm0.size) : DF _ (H17.size + 1))
        have dj8 : Dj (H0.size + 1) (H17.size + 1) := Dj.new vw.lt
        have nx9 : Nx 0 H0.size (H17.size + 1) := Nx.new hm0.size
        replace hf := hf.nw hs26
        replace mx := mx.nw hs26
        replace hd := hd.nw hs26
        replace vw := vw.nw hs26
        replace hm0 := hm0.trN hs26
        have hz4 := hs26.size
        replace vf : Var 78 H26 H17.size ([.slice none 0 0, .slice none 0 0, .slice none 0 0]) := vf
        refine LR.v (Y.assign rfl rfl) (Wd.u rfl) rfl rfl ?_
        refine LR.nil ?_
        refine hK10 _ _ ?_
        refine CW.seq (fun K12 hK12 hE12 => ?_)
        refine CW.region ?_
        refine LR.v (Y.fieldAddr vw.pt rfl Tryd.runUnderlying93 rfl rfl Tryd.sizeOf23 (by decide) rfl) (Wd.u rfl) rfl rfl ?_
        refine LR.v (Y.load1 (vw.pt.drop 1) rfl Tryd.isAgg23 rfl) (Wd.u rfl) rfl rfl ?_
        refine LR.v (Y.len hd rfl Tryd.runUnderlying23 rfl) (Wd.u rfl) rfl rfl ?_
        refine LR.v (Y.assign rfl rfl) (Wd.u rfl) rfl rfl ?_
        refine LR.nil ?_
        refine hK12 _ _ ?_
        refine CW.cut (fun (sz : (Nat)) => [(0, ptr b), (1, Str p), (5, .pointer (some ⟨H0.size, 0, none⟩)), (7, ptr H17.size), (8, .int .i64 (D1.look p : Int)), (9, .int .i64 (0)), (10, .int .i64 (sz : Int))])
          (fun (sz : (Nat)) (H : Heap) => (sz = (x.1.on (D1.wasL p) x.1.d.length).length) ∧ ((D1.wasL p).length ≤ 274877906945) ∧ Nw H26 H) (fun K13 hK13 hE13 => ?_) ?_
        ·
          have hcm13 : Nw H26 H26 := Mo.refl _ _
          refine CW.seq (fun K14 hK14 hE14 => ?_)
          refine CW.region ?_
          refine LR.v (Y.fieldAddr vw.pt rfl Tryd.runUnderlying93 rfl rfl Tryd.sizeOf4 (by decide) rfl) (Wd.u rfl) rfl rfl ?_
          refine LR.v (Y.load1 vw.pt rfl Tryd.isAgg4 rfl) (Wd.u rfl) rfl rfl ?_
          refine LR.nil ?_
          refine hK14 _ _ ?_
          refine CW.cond rfl (fun c37 => ?_) (fun c37 => ?_)
          ·
            refine CW.region ?_
            refine LR.v (Y.move rfl rfl) (Wd.u rfl) rfl rfl ?_
            refine LR.v (Y.move rfl rfl) (Wd.u rfl) rfl rfl ?_
            refine LR.v (Y.addi rfl rfl rfl (by omega)) (Wd.u rfl) rfl rfl ?_
            refine LR.v (Y.assign rfl rfl) (Wd.u rfl) rfl rfl ?_
            refine LR.nil ?_
            refine QN.sub (hK13 ((D1.wasL p).length + x.1.d.length) _ ?_) ⟨rfl, rfl, rfl, rfl, (iv (by omega)), (iv (by omega)), (iv (by omega)), trivial⟩
            exact ⟨by rw [on_len, if_pos c37], by first | (rw [hwas]; omega) | (rw [hwas]; simp), hcm13⟩
          ·
            refine CW.skip ?_
            refine QN.sub (hK13 x.1.d.length _ ?_) ⟨rfl, rfl, rfl, rfl, (iv (by omega)), (iv (by omega)), (iv (by omega)), trivial⟩
            exact ⟨by rw [on_len, if_neg (by simpa using c37)]; omega, by first | (rw [hwas]; omega) | (rw [hwas]; simp), hcm13⟩
        ·
          intro sz Hcutc37 hIcutc37
          obtain ⟨hsz, hwl, hlmcutc37⟩ := hIcutc37
          replace hf := hf.nw hlmcutc37
          replace mx := mx.nw hlmcutc37
          replace hd := hd.nw hlmcutc37
          replace vw := vw.nw hlmcutc37
          replace vf := vf.nw hlmcutc37
          replace hm0 := hm0.trN hlmcutc37
          have hz5 := hlmcutc37.size
          have hus := hB1.us
          have hszl : sz ≤ 274877906945 + 274877906944 := by rw [hsz, on_len]; split <;> omega
          refine CW.seq (fun K15 hK15 hE15 => ?_)
          refine CW.block (fun K16 hK16 hX16 hE16 => ?_)
          refine CW.seq (fun K17 hK17 hE17 => ?_)
          refine CW.region ?_
          refine LR.v (Y.move rfl rfl) (Wd.u rfl) rfl rfl ?_
          refine LR.v (Y.move rfl rfl) (Wd.u rfl) rfl rfl ?_
          refine LR.v (Y.nilCheck rfl rfl) (Wd.u rfl) rfl rfl ?_
          refine LR.v (Y.fieldAddr hf.vb.pt rfl Tryd.runUnderlying62 rfl rfl Tryd.sizeOf3 (by decide) rfl) (Wd.u rfl) rfl rfl ?_
          refine LR.v (Y.load1 (hf.vb.pt.drop 1) rfl Tryd.isAgg3 rfl) (Wd.u rfl) rfl rfl ?_
          refine LR.v (Y.gtr rfl rfl rfl) (Wd.u rfl) rfl rfl ?_
          refine LR.v (Y.assign rfl rfl) (Wd.u rfl) rfl rfl ?_
          refine LR.nil ?_
          refine hK17 _ _ ?_
          refine CW.condp rfl (fun c41 => ?_) (fun c41 => ?_)
          ·
            refine CW.seq (fun K18 hK18 hE18 => ?_)
            refine CW.region ?_
            refine LR.v (Y.assign rfl rfl) (Wd.u rfl) rfl rfl ?_
            refine LR.nil ?_
            refine hK18 _ _ ?_
            refine CW.ret (hE16 .ret nofun (by simp) _ _ (hE15 .ret nofun _ _ (hret .ret (.inr rfl) _ _ _ (res1 rfl rfl) ?_)))
            have hE : D1.layE p x.1 = 5 := layE_5 hnm (by omega)
            exact ⟨_, _, by rw [hlay, hE]; rfl, by rw [hlay]; simp only [hE]; exact hf, nx_hm0_hf, hm0⟩
          ·
            refine CW.seq (fun K19 hK19 hE19 => ?_)
            refine CW.region_any (fun Hq => Nw Hcutc37 Hq) [] rfl ?_
            have hqs := Nw.refl Hcutc37
            refine LH.take 0 (by kernel_rfl) rfl (by kernel_rfl) (by kernel_rfl) (by kernel_rfl) (fun Hq hq => Y.move rfl rfl) (Wd.u rfl) rfl rfl hqs ?_
            refine LH.take 2 (by kernel_rfl) rfl (by kernel_rfl) (by kernel_rfl) (by kernel_rfl) (fun Hq hq => Y.move rfl rfl) (Wd.u rfl) rfl rfl hqs ?_
            refine LH.take 4 (by kernel_rfl) rfl (by kernel_rfl) (by kernel_rfl) (by kernel_rfl) (fun Hq hq => Y.move rfl rfl) (Wd.u rfl) rfl rfl hqs ?_
            refine LH.take 6 (by kernel_rfl) rfl (by kernel_rfl) (by kernel_rfl) (by kernel_rfl) (fun Hq hq => Y.move rfl rfl) (Wd.u rfl) rfl rfl hqs ?_
            refine LH.take 7 (by kernel_rfl) rfl (by kernel_rfl) (by kernel_rfl) (by kernel_rfl) (fun Hq hq => Y.nilCheck rfl rfl) (Wd.u rfl) rfl rfl hqs ?_
            refine LH.take 8 (by kernel_rfl) rfl (by kernel_rfl) (by kernel_rfl) (by kernel_rfl) (fun Hq hq => Y.fieldAddr (hf.vb.pt.nw hq) rfl Tryd.runUnderlying62 rfl rfl Tryd.sizeOf3 (by decide) rfl) (Wd.u rfl) rfl rfl hqs ?_
            refine LH.take 9 (by kernel_rfl) rfl (by kernel_rfl) (by kernel_rfl) (by kernel_rfl) (fun Hq hq => Y.load1 ((hf.vb.pt.drop 0).nw hq) rfl Tryd.isAgg3 rfl) (Wd.u rfl) rfl rfl hqs ?_
            refine LH.one (i := 1) (by kernel_rfl) ?_
            -- call (*selvage/simfs.FS).Used
            refine LO.call rfl rfl Tryd.call74 rfl (Wd.u rfl) rfl rfl (used_ct _ _ b D1 w0 _ hf hB1.an (by omega)) (fun v50 H50 r50 => ?_)
            obtain ⟨rfl, hs50⟩ := r50
            replace hf := hf.nw hs50
            replace mx := mx.nw hs50
            replace hd := hd.nw hs50
            replace vw := vw.nw hs50
            replace vf := vf.nw hs50
            replace hm0 := hm0.trN hs50
            have hz6 := hs50.size
            have hq50 := hqs.tr hs50
            refine ⟨.inr hq50, LH.narrow (SH2 := fun Hq => Nw H50 Hq) (fun Hq hq => hq50.tr hq) ?_⟩
            have hqn50 := Nw.refl H50
            refine LH.take 3 (by kernel_rfl) rfl (by kernel_rfl) (by kernel_rfl) (by kernel_rfl) (fun Hq hq => Y.subi rfl rfl rfl (by omega)) (Wd.u rfl) rfl rfl hqn50 ?_
            refine LH.take 5 (by kernel_rfl) rfl (by kernel_rfl) (by kernel_rfl) (by kernel_rfl) (fun Hq hq => Y.addi rfl rfl rfl (by omega)) (Wd.u rfl) rfl rfl hqn50 ?_
            refine LH.take 10 (by kernel_rfl) rfl (by kernel_rfl) (by kernel_rfl) (by kernel_rfl) (fun Hq hq => Y.gtr rfl rfl rfl) (Wd.u rfl) rfl rfl hqn50 ?_
            refine LH.take 11 (by kernel_rfl) rfl (by kernel_rfl) (by kernel_rfl) (by kernel_rfl) (fun Hq hq => Y.assign rfl rfl) (Wd.u rfl) rfl rfl hqn50 ?_
            refine LH.done (by kernel_rfl) ?_
            have hqe := hqn50
            refine hK19 _ _ ?_
            refine CW.condp rfl (fun c48 => ?_) (fun c48 => ?_)
            ·
              refine CW.seq (fun K20 hK20 hE20 => ?_)
              refine CW.region ?_
              refine LR.v (Y.assign rfl rfl) (Wd.u rfl) rfl rfl ?_
              refine LR.nil ?_
              refine hK20 _ _ ?_
              refine CW.ret (hE16 .ret nofun (by simp) _ _ (hE15 .ret nofun _ _ (hret .ret (.inr rfl) _ _ _ (res1 rfl rfl) ?_)))
              have hE : D1.layE p x.1 = 12 := layE_12 hnm (by omega) (by omega)
              exact ⟨_, _, by rw [hlay, hE]; rfl, by rw [hlay]; simp only [hE]; exact hf, nx_hm0_hf, hm0⟩
            ·
              refine CW.skip ?_
              refine hK16 _ _ ?_
              refine hK15 _ _ ?_
              refine CW.seq (fun K21 hK21 hE21 => ?_)
              refine CW.seq (fun K22 hK22 hE22 => ?_)
              refine CW.region ?_
              refine LR.v (Y.move rfl rfl) (Wd.u rfl) rfl rfl ?_
              refine LR.v (Y.eql rfl rfl rfl) (Wd.u rfl) rfl rfl ?_
              refine LR.nil ?_
              refine hK22 _ _ ?_
              refine CW.condp rfl (fun c61 => ?_) (fun c61 => ?_)
              ·
                have hlen1 := hf.len
                refine CW.region ?_
                refine LR.v (Y.move rfl rfl) (Wd.u rfl) rfl rfl ?_
                refine LR.v (Y.move rfl rfl) (Wd.u rfl) rfl rfl ?_
                -- call selvage/simfs.Dir
                refine LR.call rfl Tryd.call52 rfl (Wd.u rfl) rfl rfl (dir_ct mx_ p w0 _ mx (bf_mx.mono (by omega)) hl) (fun v64 H64 r64 => ?_)
                obtain ⟨rfl, hs64⟩ := r64
                replace hf := hf.nw hs64
                replace mx := mx.nw hs64
                replace hd := hd.nw hs64
                replace vw := vw.nw hs64
                replace vf := vf.nw hs64
                replace hm0 := hm0.trN hs64
                have hz7 := hs64.size
                refine LR.v (Y.move rfl rfl) (Wd.u rfl) rfl rfl ?_
                refine LR.v (Y.move rfl rfl) (Wd.u rfl) rfl rfl ?_
                refine LR.v (Y.cast (v2 := .agg (fC (g1.fb ++ [H17.size]) ⟨[], p, some D1.fs.length⟩).toArray) (Y.build (v := .agg #[Str [], Str p, ptr H17.size]) rfl rfl (by intro w; kernel_rfl)) (by simp [fC, fpt, List.getD, ← hf.len])) (Wd.u rfl) rfl rfl ?_
                have df10 := DFL.cons (df6) (dmx)
                have df11 := DFL.cons (df7) (dfd)
                have dj12 : DL (H0.size + 1) ((H17.size + 1) :: K) := DL.cons (dj8) (dj1)
                have nx13 := NxK.cons (nx9) (nx_hm0_hf)
                replace hf := hf.newFil vf (dj5)
                have hbk_hf := hf.bk
                -- call (*selvage/simfs.FS).change
                refine LR.call rfl Tryd.call69 rfl (Wd.u rfl) rfl rfl (change_ct ((H17.size + 1) :: K) { g1 with ρ := upr g1.ρ H17.size (.fil D1.fs.length), fb := g1.fb ++ [H17.size] } b { D1 with fs := D1.fs ++ [⟨[], [], []⟩] } (dirP p) ⟨[], p, some D1.fs.length⟩ w0 _ hf (by show g1.dm.length + 1 ≤ D1.ops; rw [hg1.2.2.2]; omega) (by simp [Chg.dir]) (fun i hi => by cases hi; exact ⟨rfl, by simp⟩) (fun h => absurd rfl h) (by have := hB1.lg; show D1.log.length ≤ _; omega)) (fun v68 H68 r68 => ?_)
                have ql14 := hf.bk
                have ql15 := vw.lt
                obtain ⟨K68, g68, rfl, hf, hkd68, hg68, hs68⟩ := r68
                have df16 := DFL.appK (df10) (bf_mx.mono hm0.size) hkd68
                have df17 := DFL.appK (df11) (bf_hd.mono hm0.size) hkd68
                have dj18 : DL (H0.size + 1) K68 := DL.appK (dj12) ql15 hkd68
                have nx19 : NxK K H0.size K68 := NxK.tr (nx13) hkd68 hm0.size
                replace mx := mx.upL hs68 (df10)
                replace hd := hd.upL hs68 (df11)
                replace vw := vw.upL hs68 (dj12)
                replace hm0 := hm0.trL hs68 (MIL.ofK (nx13) (by intro k hk; simp [hk]))
                have hz8 := hs68.size
                have hbk_hf := hf.bk
                obtain ⟨i, hie⟩ : ∃ i, i = D1.fs.length := ⟨_, rfl⟩
                have hil : i < (mk1 D1 p).fs.length := by rw [hie]; exact mk1_len D1 p
                have hbi0 : g68.fb.getD i 0 = H17.size := by rw [hg68, hie]; simp [List.getD, ← hlen1]
                obtain ⟨bi, hbi, hbv⟩ : ∃ bi, g68.fb.getD i 0 = bi ∧ ptr H17.size = ptr bi := ⟨_, hbi0, rfl⟩
                have hnow2 : (fget (mk1 D1 p).fs i).now = D1.wasL p := by rw [hie, mk1_get, hwas]
                have hwi : (fget (mk1 D1 p).fs i).w.length ≤ 274877906945 := by rw [hie, mk1_get]; simp
                replace hf : PDk K68 g68 H68 b (mk1 D1 p) := hf
                refine LR.nil ?_
                refine hK21 _ _ ?_
                refine CW.seq (fun K23 hK23 hE23 => ?_)
                refine CW.region ?_
                refine LR.v (Y.fieldAddr vw.pt rfl Tryd.runUnderlying93 rfl rfl Tryd.sizeOf23 (by decide) rfl) (Wd.u rfl) rfl rfl ?_
                refine LR.v (Y.load1 (vw.pt.drop 1) rfl Tryd.isAgg23 rfl) (Wd.u rfl) rfl rfl ?_
                -- call slices.Clone[[]byte,byte]
                refine LR.call rfl Tryd.call23 rfl (Wd.u rfl) rfl rfl (bclone_ct _ x.1.d w0 _ hd.any (by omega)) (fun v71 H71 r71 => ?_)
                obtain ⟨s71, k71, rfl, ow71, hk71, hs71⟩ := r71
                have dj20 : DL k71 K68 := DL.app2 (DL.zK) hf.bk hk71
                have df21 := DF.app (DF.z) (bf_mx.mono hm0.size) hk71
                have df22 := DF.app (DF.z) (bf_hd.mono hm0.size) hk71
                have dj23 : Dj (H0.size + 1) k71 := Dj.app (Dj.z) vw.lt hk71
                have nx24 : Nx 0 H0.size k71 := Nx.tr (Nx.refl 0 _) hk71 hm0.size
                replace hf := hf.nw hs71
                replace mx := mx.nw hs71
                replace hd := hd.nw hs71
                replace vw := vw.nw hs71
                replace hm0 := hm0.trN hs71
                have hz9 := hs71.size
                have hle_ow71 := ow71.le
                refine LR.v (Y.fieldAddr vw.pt rfl Tryd.runUnderlying93 rfl rfl Tryd.sizeOf23 (by decide) rfl) (Wd.u rfl) rfl rfl ?_
                refine LR.s (S.var1 vw 1 ([.bool x.1.b, s71.v]) rfl rfl rfl (rfl) Tryd.sizeOf23 (by simp) (rfl)) (Wd.u rfl) rfl (fun H19_4 r19_4 => ?_)
                obtain ⟨vw, hs19_4⟩ := r19_4
                replace hs19_4 := hs19_4.md1
                replace hf := hf.upL hs19_4 (DKL.cons dj18 DKL.nil)
                replace mx := mx.upL hs19_4 (DFL.cons df2 DFL.nil)
                replace hd := hd.upL hs19_4 (DFL.cons df3 DFL.nil)
                replace ow71 := ow71.upL hs19_4 (DL.cons dj23.symm DL.nil)
                replace hm0 := hm0.trL hs19_4 (MIL.cons (MI.app MI.z (nx4) (Nat.le_refl _)) MIL.nil)
                have hz10 := hs19_4.size
                refine LR.nil ?_
                refine hK23 _ _ ?_
                refine CW.seq (fun K24 hK24 hE24 => ?_)
                obtain ⟨nvB, svB, wvB, kwB, lwB, hfiB⟩ := hf.fil i hil
                have hop : Mo (Ms [(bi + 1)]) H19_4 H19_4 := Mo.refl _ _
                have km25 : KM K68 (bi + 1) := (hf.kmf hfiB hbi)
                have vf2 := hfiB.atb hbi
                have hlt_vf2 := vf2.lt
                have df26 := DFL.at (df16) km25
                have df27 := DFL.at (df17) km25
                have dj28 : Dj (H0.size + 1) (bi + 1) := DL.at (dj18) km25
                have dj29 : Dj k71 (bi + 1) := DL.at (dj20) km25
                have nx30 : MI K H0.size (bi + 1) := MIL.at (MIL.ofK (nx19) (by intro k hk; simp [hk])) km25
                have nx31 := Nx.refl (bi + 1) H19_4.size
                refine CW.region_any (fun Hq => Nw H19_4 Hq) [11, 12, 13, 14] rfl ?_
                have hq20 : Nw H19_4 H19_4 := Mo.refl _ _
                refine LH.take 0 (by kernel_rfl) rfl (by kernel_rfl) (by kernel_rfl) (by kernel_rfl) (fun Hq hq => Y.cast (v2 := ptr bi) (Y.move rfl rfl) (hbv)) (Wd.u rfl) rfl rfl hq20 ?_
                refine LH.take 1 (by kernel_rfl) rfl (by kernel_rfl) (by kernel_rfl) (by kernel_rfl) (fun Hq hq => Y.loadN (vw.pt.nw hq) rfl Tryd.isAgg93 Tryd.sizeOf93 (rfl) rfl) (Wd.u rfl) rfl rfl hq20 ?_
                refine LH.take 2 (by kernel_rfl) rfl (by kernel_rfl) (by kernel_rfl) (by kernel_rfl) (fun Hq hq => Y.cast (v2 := ptr bi) (Y.move rfl rfl) (hbv)) (Wd.u rfl) rfl rfl hq20 ?_
                refine LH.take 3 (by kernel_rfl) rfl (by kernel_rfl) (by kernel_rfl) (by kernel_rfl) (fun Hq hq => Y.nilCheck rfl rfl) (Wd.u rfl) rfl rfl hq20 ?_
                refine LH.take 4 (by kernel_rfl) rfl (by kernel_rfl) (by kernel_rfl) (by kernel_rfl) (fun Hq hq => Y.fieldAddr (vf2.pt.nw hq) rfl Tryd.runUnderlying78 rfl rfl Tryd.sizeOf75 (by decide) rfl) (Wd.u rfl) rfl rfl hq20 ?_
                refine LH.take 5 (by kernel_rfl) rfl (by kernel_rfl) (by kernel_rfl) (by kernel_rfl) (fun Hq hq => Y.fieldAddr (vf2.pt.nw hq) rfl Tryd.runUnderlying75 rfl rfl Tryd.sizeOf23 (by decide) rfl) (Wd.u rfl) rfl rfl hq20 ?_
                refine LH.take 6 (by kernel_rfl) rfl (by kernel_rfl) (by kernel_rfl) (by kernel_rfl) (fun Hq hq => Y.load1 (vf2.pt.nw hq) rfl Tryd.isAgg23 rfl) (Wd.u rfl) rfl rfl hq20 ?_
                refine LH.take 7 (by kernel_rfl) rfl (by kernel_rfl) (by kernel_rfl) (by kernel_rfl) (fun Hq hq => Y.fieldAddr (vw.pt.nw hq) rfl Tryd.runUnderlying93 rfl rfl Tryd.sizeOf23 (by decide) rfl) (Wd.u rfl) rfl rfl hq20 ?_
                refine LH.take 8 (by kernel_rfl) rfl (by kernel_rfl) (by kernel_rfl) (by kernel_rfl) (fun Hq hq => Y.load1 ((vw.pt.drop 1).nw hq) rfl Tryd.isAgg23 rfl) (Wd.u rfl) rfl rfl hq20 ?_
                refine LH.take 9 (by kernel_rfl) rfl (by kernel_rfl) (by kernel_rfl) (by kernel_rfl) (fun Hq hq => Y.len (ow71.rd.nw hq) rfl Tryd.runUnderlying23 rfl) (Wd.u rfl) rfl rfl hq20 ?_
                refine LH.one (i := 10) (by kernel_rfl) ?_
                -- call (selvage/simfs.write).on
                refine LO.call rfl rfl Tryd.call75 rfl (Wd.u rfl) rfl rfl (on_ct (x.1, s71) nvB _ x.1.d.length w0 _ ow71.rd.any hfiB.hn.any (Nat.le_refl _) (by rw [hnow2]; omega)) (fun v83 H83 r83 => ?_)
                obtain ⟨s83, k83, rfl, ow83, hk83, hs83⟩ := r83
                have df32 := DF.app (DF.z) (bf_mx.mono hm0.size) hk83
                have df33 := DF.app (DF.z) (bf_hd.mono hm0.size) hk83
                have dj34 : Dj (H0.size + 1) k83 := Dj.app (Dj.z) vw.lt hk83
                have dj35 : Dj k71 k83 := Dj.app (Dj.z) ow71.le hk83
                have dj36 : Dj (bi + 1) k83 := Dj.app (Dj.z) vf2.lt hk83
                have nx37 : Nx 0 H0.size k83 := Nx.tr (Nx.refl 0 _) hk83 hm0.size
                have nx38 : Nx 0 H19_4.size k83 := Nx.tr (Nx.refl 0 _) hk83 hop.size
                have nx39 : Nx 0 H19_4.size k83 := Nx.tr (Nx.refl 0 _) hk83 hq20.size
                replace mx := mx.nw hs83
                replace hd := hd.nw hs83
                replace vw := vw.nw hs83
                replace ow71 := ow71.nw hs83
                replace vf2 := vf2.nw hs83
                replace hm0 := hm0.trN hs83
                replace hop := hop.trN hs83
                replace hq20 := hq20.tr hs83
                have hz11 := hs83.size
                have hle_ow83 := ow83.le
                refine ⟨.inr hq20, LH.narrow (SH2 := fun Hq => Mo (Ms [k83]) H83 Hq) (fun Hq hq => (Mo.trL (ks := []) (hq20.mdn []) hq (MIL.cons (MI.app MI.z (nx39) (Nat.le_refl _)) MIL.nil)).nil) ?_⟩
                have hq20 : Mo (Ms [k83]) H83 H83 := Mo.refl _ _
                have nx40 := Nx.refl k83 H83.size
                refine LH.one (i := 11) (by kernel_rfl) ?_
                refine LO.v rfl (Y.nilCheck rfl rfl) (Wd.u rfl) rfl rfl (.inl rfl) ?_
                refine LH.one (i := 12) (by kernel_rfl) ?_
                refine LO.v rfl (Y.fieldAddr vf2.pt rfl Tryd.runUnderlying78 rfl rfl Tryd.sizeOf75 (by decide) rfl) (Wd.u rfl) rfl rfl (.inl rfl) ?_
                refine LH.one (i := 13) (by kernel_rfl) ?_
                refine LO.v rfl (Y.fieldAddr vf2.pt rfl Tryd.runUnderlying75 rfl rfl Tryd.sizeOf23 (by decide) rfl) (Wd.u rfl) rfl rfl (.inl rfl) ?_
                refine LH.one (i := 14) (by kernel_rfl) ?_
                refine LO.s rfl (S.var1 vf2 0 ([s83.v, svB.v, wvB.v]) rfl rfl rfl (rfl) Tryd.sizeOf23 (by simp) (rfl)) (Wd.u rfl) rfl (fun H20_14 r20_14 => ?_)
                obtain ⟨vf2, hs20_14⟩ := r20_14
                replace hs20_14 := hs20_14.md1
                replace mx := mx.upL hs20_14 (DFL.cons df26 DFL.nil)
                replace hd := hd.upL hs20_14 (DFL.cons df27 DFL.nil)
                replace vw := vw.upL hs20_14 (DL.cons dj28 DL.nil)
                replace ow71 := ow71.upL hs20_14 (DL.cons dj29 DL.nil)
                replace ow83 := ow83.upL hs20_14 (DL.cons dj36.symm DL.nil)
                replace hm0 := hm0.trL hs20_14 (MIL.cons (nx30) MIL.nil)
                replace hop := hop.trL hs20_14 (MIL.cons (MI.app (MI.root (by simp)) (nx31) (Nat.le_refl _)) MIL.nil)
                -- LOST hq20
                have hz12 := hs20_14.size
                refine ⟨.inl rfl, ?_⟩
                refine LH.done (by kernel_rfl) ?_
                have dj41 : DL (H0.size + 1) (k83 :: K68) := (DL.cons (dj34) (dj18))
                have dj42 : DL k71 (k83 :: K68) := (DL.cons (dj35) (dj20))
                have df43 : DFL _ (k83 :: K68) := (DFL.cons (df32) (df16))
                have df44 : DFL _ (k83 :: K68) := (DFL.cons (df33) (df17))
                have nx45 : NxK K H0.size (k83 :: K68) := (NxK.cons (nx37) (nx19))
                replace hf := hf.fnow hil hfiB hbi hop vf2 ow83 (DL.nxK hf.bk (nx38))
                have hbk_hf := hf.bk
                refine hK24 _ _ ?_
                refine CW.seq (fun K25 hK25 hE25 => ?_)
                have hil2 := hil
                rw [← fl_put] at hil2
                obtain ⟨nvC, svC, wvC, kwC, lwC, hfiC⟩ := hf.fil i hil2
                have hlw : lwC.length ≤ 274877906945 := by have h9 := congrArg List.length hfiC.lw; rw [List.length_map, fget_put hil] at h9; rw [h9]; exact hwi
                have hop : Mo (Ms [(bi + 1), kwC]) H20_14 H20_14 := Mo.refl _ _
                have km46 : KM (k83 :: K68) (bi + 1) := (hf.kmf hfiC hbi)
                have vf2 := hfiC.atb hbi
                have hlt_vf2 := vf2.lt
                have df47 := DFL.at (df43) km46
                have df48 := DFL.at (df44) km46
                have dj49 : Dj (H0.size + 1) (bi + 1) := DL.at (dj41) km46
                have dj50 : Dj k71 (bi + 1) := DL.at (dj42) km46
                have nx51 : MI K H0.size (bi + 1) := MIL.at (MIL.ofK (nx45) (by intro k hk; simp [hk])) km46
                have nx52 := Nx.refl (bi + 1) H20_14.size
                have km53 : KM (k83 :: K68) kwC := (hf.km hfiC.rk (by simp))
                have hw := hfiC.hw
                have hle_hw := hw.le
                have df54 := DFL.at (df43) km53
                have df55 := DFL.at (df44) km53
                have dj56 : Dj (H0.size + 1) kwC := DL.at (dj41) km53
                have dj57 : Dj k71 kwC := DL.at (dj42) km53
                have nx58 : MI K H0.size kwC := MIL.at (MIL.ofK (nx45) (by intro k hk; simp [hk])) km53
                have nx59 := Nx.refl kwC H20_14.size
                have dj60 : Dj (bi + 1) kwC := hfiC.ne hbi
                refine CW.region_any (fun Hq => Mo (Ms [kwC]) H20_14 Hq) [8, 9, 10] rfl ?_
                have hq21 : Mo (Ms [kwC]) H20_14 H20_14 := Mo.refl _ _
                have nx61 := Nx.refl kwC H20_14.size
                refine LH.take 0 (by kernel_rfl) rfl (by kernel_rfl) (by kernel_rfl) (by kernel_rfl) (fun Hq hq => Y.cast (v2 := ptr bi) (Y.move rfl rfl) (hbv)) (Wd.u rfl) rfl rfl hq21 ?_
                refine LH.take 1 (by kernel_rfl) rfl (by kernel_rfl) (by kernel_rfl) (by kernel_rfl) (fun Hq hq => Y.cast (v2 := ptr bi) (Y.move rfl rfl) (hbv)) (Wd.u rfl) rfl rfl hq21 ?_
                refine LH.take 2 (by kernel_rfl) rfl (by kernel_rfl) (by kernel_rfl) (by kernel_rfl) (fun Hq hq => Y.nilCheck rfl rfl) (Wd.u rfl) rfl rfl hq21 ?_
                refine LH.take 3 (by kernel_rfl) rfl (by kernel_rfl) (by kernel_rfl) (by kernel_rfl) (fun Hq hq => Y.fieldAddr (vf2.upL hq (DL.cons dj60 DL.nil)).pt rfl Tryd.runUnderlying78 rfl rfl Tryd.sizeOf76 (by decide) rfl) (Wd.u rfl) rfl rfl hq21 ?_
                refine LH.take 4 (by kernel_rfl) rfl (by kernel_rfl) (by kernel_rfl) (by kernel_rfl) (fun Hq hq => Y.load1 ((vf2.upL hq (DL.cons dj60 DL.nil)).pt.drop 2) rfl Tryd.isAgg76 rfl) (Wd.u rfl) rfl rfl hq21 ?_
                refine LH.take 5 (by kernel_rfl) rfl (by kernel_rfl) (by kernel_rfl) (by kernel_rfl) (fun Hq hq => Y.loadN (vw.upL hq (DL.cons dj56 DL.nil)).pt rfl Tryd.isAgg93 Tryd.sizeOf93 (rfl) rfl) (Wd.u rfl) rfl rfl hq21 ?_
                refine LH.one (i := 6) (by kernel_rfl) ?_
                refine LO.z rfl (Z.litw _ ([(x.1, s71)]) rfl inf76 rfl rfl rfl (by decide) (by decide) fW_len fW_one (rfl)) (Wd.u rfl) rfl rfl (fun v93 H93 r93 => ?_)
                obtain ⟨ow93, hs93, ob93, hH93⟩ := r93
                have hzs93 : H93.size = H20_14.size + 1 := by rw [hH93]; simp
                have df62 := (DF.new (bf_mx.mono hm0.size) : DF _ (H20_14.size + 1))
                have df63 := (DF.new (bf_hd.mono hm0.size) : DF _ (H20_14.size + 1))
                have dj64 : Dj (H0.size + 1) (H20_14.size + 1) := Dj.new vw.lt
                have dj65 : Dj k71 (H20_14.size + 1) := Dj.new ow71.le
                have dj66 : Dj (bi + 1) (H20_14.size + 1) := Dj.new vf2.lt
                have dj67 : Dj kwC (H20_14.size + 1) := Dj.new hw.le
                have nx68 : Nx 0 H0.size (H20_14.size + 1) := Nx.new hm0.size
                have nx69 : Nx 0 H20_14.size (H20_14.size + 1) := Nx.new hop.size
                have nx70 : Nx 0 H20_14.size (H20_14.size + 1) := Nx.new hq21.size
                replace mx := mx.nw hs93
                replace hd := hd.nw hs93
                replace vw := vw.nw hs93
                replace ow71 := ow71.nw hs93
                replace vf2 := vf2.nw hs93
                replace hw := hw.nw hs93
                replace hm0 := hm0.trN hs93
                replace hop := hop.trN hs93
                replace hq21 := hq21.trN hs93
                have hz13 := hs93.size
                refine ⟨.inr hq21, LH.narrow (SH2 := fun Hq => Mo (Ms [kwC, (H20_14.size + 1)]) H93 Hq) (fun Hq hq => hq21.trL hq (MIL.cons (MI.app (MI.root (by simp)) (nx61) (Nat.le_refl _)) (MIL.cons (MI.app MI.z (nx70) (Nat.le_refl _)) MIL.nil))) ?_⟩
                have hq21 : Mo (Ms [kwC, (H20_14.size + 1)]) H93 H93 := Mo.refl _ _
                have nx71 := Nx.refl kwC H93.size
                have nx72 := Nx.refl (H20_14.size + 1) H93.size
                refine LH.one (i := 7) (by kernel_rfl) ?_
                refine LO.z rfl (Z.apnd hw ow93.rd rfl inf76 rfl rfl (by first | omega | (simp; omega)) (by first | omega | (simp; omega))) (Wd.u rfl) rfl rfl (fun v94 H94 r94 => ?_)
                obtain ⟨kw2, hw, hk94, hs94⟩ := r94
                replace hk94 : Nx kwC H93.size kw2 := hk94
                replace hs94 := hs94.md
                have df73 := DF.app (df54) (bf_mx.mono hm0.size) hk94
                have df74 := DF.app (df55) (bf_hd.mono hm0.size) hk94
                have dj75 : Dj (H0.size + 1) kw2 := Dj.app (dj56) vw.lt hk94
                have dj76 : Dj k71 kw2 := Dj.app (dj57) ow71.le hk94
                have dj77 : Dj (bi + 1) kw2 := Dj.app (dj60) vf2.lt hk94
                have dj78 : Dj (H20_14.size + 1) kw2 := Dj.app (dj67.symm) ow93.le hk94
                have nx79 : MI K H0.size kw2 := MI.app (nx58) hk94 hm0.size
                have nx80 : Nx kwC H20_14.size kw2 := Nx.tr (nx59) hk94 hop.size
                have nx81 : Nx kwC H93.size kw2 := Nx.tr (nx71) hk94 hq21.size
                replace mx := mx.upL hs94 (DFL.cons df54 DFL.nil)
                replace hd := hd.upL hs94 (DFL.cons df55 DFL.nil)
                replace vw := vw.upL hs94 (DL.cons dj56 DL.nil)
                replace ow71 := ow71.upL hs94 (DL.cons dj57 DL.nil)
                replace vf2 := vf2.upL hs94 (DL.cons dj60 DL.nil)
                replace ow93 := ow93.upL hs94 (DL.cons dj67.symm DL.nil)
                replace hm0 := hm0.trL hs94 (MIL.cons (nx58) MIL.nil)
                replace hop := hop.trL hs94 (MIL.cons (MI.app (MI.root (by simp)) (nx59) (Nat.le_refl _)) MIL.nil)
                replace hq21 := hq21.trL hs94 (MIL.cons (MI.app (MI.root (by simp)) (nx71) (Nat.le_refl _)) MIL.nil)
                have hz14 := hs94.size
                have hle_hw := hw.le
                refine ⟨.inr hq21, LH.narrow (SH2 := fun Hq => Mo (Ms [kw2, (H20_14.size + 1)]) H94 Hq) (fun Hq hq => hq21.trL hq (MIL.cons (MI.app (MI.root (by simp)) (nx81) (Nat.le_refl _)) (MIL.cons (MI.app (MI.root (by simp)) (nx72) (Nat.le_refl _)) MIL.nil))) ?_⟩
                have hq21 : Mo (Ms [kw2, (H20_14.size + 1)]) H94 H94 := Mo.refl _ _
                have nx82 := Nx.refl kw2 H94.size
                have nx83 := Nx.refl (H20_14.size + 1) H94.size
                refine LH.one (i := 8) (by kernel_rfl) ?_
                refine LO.v rfl (Y.nilCheck rfl rfl) (Wd.u rfl) rfl rfl (.inl rfl) ?_
                refine LH.one (i := 9) (by kernel_rfl) ?_
                refine LO.v rfl (Y.fieldAddr vf2.pt rfl Tryd.runUnderlying78 rfl rfl Tryd.sizeOf76 (by decide) rfl) (Wd.u rfl) rfl rfl (.inl rfl) ?_
                refine LH.one (i := 10) (by kernel_rfl) ?_
                refine LO.s rfl (S.var1 vf2 2 ([nvC.v, svC.v, v94]) rfl rfl rfl (hw.rd.oneCell) Tryd.sizeOf76 (by simp) (rfl)) (Wd.u rfl) rfl (fun H21_10 r21_10 => ?_)
                obtain ⟨vf2, hs21_10⟩ := r21_10
                replace hs21_10 := hs21_10.md1
                replace mx := mx.upL hs21_10 (DFL.cons df47 DFL.nil)
                replace hd := hd.upL hs21_10 (DFL.cons df48 DFL.nil)
                replace vw := vw.upL hs21_10 (DL.cons dj49 DL.nil)
                replace ow71 := ow71.upL hs21_10 (DL.cons dj50 DL.nil)
                replace hw := hw.upL hs21_10 (DL.cons dj77.symm DL.nil)
                replace ow93 := ow93.upL hs21_10 (DL.cons dj66.symm DL.nil)
                replace hm0 := hm0.trL hs21_10 (MIL.cons (nx51) MIL.nil)
                replace hop := hop.trL hs21_10 (MIL.cons (MI.app (MI.root (by simp)) (nx52) (Nat.le_refl _)) MIL.nil)
                -- LOST hq21
                have hz15 := hs21_10.size
                refine ⟨.inl rfl, ?_⟩
                refine LH.done (by kernel_rfl) ?_
                obtain ⟨wv2, rfl⟩ : ∃ s : SV, v94 = s.v := ⟨toSV v94, hw.sv.symm⟩
                have dj84 : DL (H0.size + 1) (k71 :: (kw2 :: (k83 :: K68))) := (DL.cons (dj23) ((DL.cons (dj75) (dj41))))
                have df85 : DFL _ (k71 :: (kw2 :: (k83 :: K68))) := (DFL.cons (df21) ((DFL.cons (df73) (df43))))
                have df86 : DFL _ (k71 :: (kw2 :: (k83 :: K68))) := (DFL.cons (df22) ((DFL.cons (df74) (df44))))
                have nx87 : NxK K H0.size (k71 :: (kw2 :: (k83 :: K68))) := (NxK.cons (nx24) ((NxK.app (nx45) (km53) (nx80) (by omega))))
                replace hf := hf.fwr hil2 hfiC hbi hop vf2 hw (nx80) ow71 (DL.cons (dj76) (dj42))
                have hbk_hf := hf.bk
                refine hK25 _ _ ?_
                refine CW.seq (fun K26 hK26 hE26 => ?_)
                refine CW.region ?_
                refine LR.v (Y.assign rfl rfl) (Wd.u rfl) rfl rfl ?_
                refine LR.nil ?_
                refine hK26 _ _ ?_
                refine CW.ret (hret .ret (.inr rfl) _ _ _ (res1 rfl rfl) ?_)
                have hE0 : D1.layE p x.1 = 0 := layE_0 hnm (by omega) (by omega)
                exact ⟨_, _, by rw [hlay, hE0]; rfl, by rw [hlay]; simp only [hE0, if_true]; first | (rw [← write_some hnow hil]; rw [← hwas] at hf; exact hf) | (rw [← write_none hnow]; subst hie; exact hf), nx87, hm0⟩
              ·
                exfalso; omega
      ·
        have hlk : D1.look p = 0 := by
          rcases hlo with h | h | h
          · exact h
          · rw [if_neg (by omega)] at c24; cases c24
          · omega
        obtain ⟨hnm, i, hnow⟩ := look_0 hlk
        have hil := hf.ids.1 p i hnow
        have hwas := was_some hnow
        obtain ⟨bi, hbi, hbv⟩ : ∃ bi, g1.fb.getD i 0 = bi ∧ .pointer (fpt g1.fb (if D1.look p = 0 then mget D1.now p else none)) = ptr bi := ⟨_, rfl, by rw [if_pos hlk, hnow]; rfl⟩
        have hnow2 := hwas.symm
        have hnwi := hB1.nw i
        have hwasl : (D1.wasL p).length ≤ 274877906945 := by rw [hwas]; exact hnwi
        have hwi := hB1.w i
        obtain ⟨nvA, svA, wvA, kwA, lwA, hfiA⟩ := hf.fil i hil
        refine CW.region ?_
        refine LR.v (Y.cast (v2 := fvl g1.fb i) (Y.move rfl rfl) (by rw [if_pos hlk, hnow]; rfl)) (Wd.u rfl) rfl rfl ?_
        refine LR.v (Y.nilCheck rfl rfl) (Wd.u rfl) rfl rfl ?_
        refine LR.v (Y.fieldAddr hfiA.vf.pt rfl Tryd.runUnderlying78 rfl rfl Tryd.sizeOf75 (by decide) rfl) (Wd.u rfl) rfl rfl ?_
        refine LR.v (Y.fieldAddr (hfiA.vf.pt.drop 0) rfl Tryd.runUnderlying75 rfl rfl Tryd.sizeOf23 (by decide) rfl) (Wd.u rfl) rfl rfl ?_
        refine LR.v (Y.load1 ((hfiA.vf.pt.drop 0).drop 0) rfl Tryd.isAgg23 rfl) (Wd.u rfl) rfl rfl ?_
        refine LR.v (Y.cast (v2 := .int .i64 ((D1.wasL p).length : Int)) (Y.len hfiA.hn rfl Tryd.runUnderlying23 rfl) (by rw [hwas])) (Wd.u rfl) rfl rfl ?_
        refine LR.v (Y.assign rfl rfl) (Wd.u rfl) rfl rfl ?_
        refine LR.nil ?_
        refine hK10 _ _ ?_
        refine CW.seq (fun K27 hK27 hE27 => ?_)
        refine CW.region ?_
        refine LR.v (Y.fieldAddr vw.pt rfl Tryd.runUnderlying93 rfl rfl Tryd.sizeOf23 (by decide) rfl) (Wd.u rfl) rfl rfl ?_
        refine LR.v (Y.load1 (vw.pt.drop 1) rfl Tryd.isAgg23 rfl) (Wd.u rfl) rfl rfl ?_
        refine LR.v (Y.len hd rfl Tryd.runUnderlying23 rfl) (Wd.u rfl) rfl rfl ?_
        refine LR.v (Y.assign rfl rfl) (Wd.u rfl) rfl rfl ?_
        refine LR.nil ?_
        refine hK27 _ _ ?_
        refine CW.cut (fun (sz : (Nat)) => [(0, ptr b), (1, Str p), (5, .pointer (some ⟨H0.size, 0, none⟩)), (7, .pointer (fpt g1.fb (if D1.look p = 0 then mget D1.now p else none))), (8, .int .i64 (D1.look p : Int)), (9, .int .i64 ((D1.wasL p).length : Int)), (10, .int .i64 (sz : Int))])
          (fun (sz : (Nat)) (H : Heap) => (sz = (x.1.on (D1.wasL p) x.1.d.length).length) ∧ ((D1.wasL p).length ≤ 274877906945) ∧ Nw H17 H) (fun K28 hK28 hE28 => ?_) ?_
        ·
          have hcm28 : Nw H17 H17 := Mo.refl _ _
          refine CW.seq (fun K29 hK29 hE29 => ?_)
          refine CW.region ?_
          refine LR.v (Y.fieldAddr vw.pt rfl Tryd.runUnderlying93 rfl rfl Tryd.sizeOf4 (by decide) rfl) (Wd.u rfl) rfl rfl ?_
          refine LR.v (Y.load1 vw.pt rfl Tryd.isAgg4 rfl) (Wd.u rfl) rfl rfl ?_
          refine LR.nil ?_
          refine hK29 _ _ ?_
          refine CW.cond rfl (fun c37 => ?_) (fun c37 => ?_)
          ·
            refine CW.region ?_
            refine LR.v (Y.move rfl rfl) (Wd.u rfl) rfl rfl ?_
            refine LR.v (Y.move rfl rfl) (Wd.u rfl) rfl rfl ?_
            refine LR.v (Y.addi rfl rfl rfl (by omega)) (Wd.u rfl) rfl rfl ?_
            refine LR.v (Y.assign rfl rfl) (Wd.u rfl) rfl rfl ?_
            refine LR.nil ?_
            refine QN.sub (hK28 ((D1.wasL p).length + x.1.d.length) _ ?_) ⟨rfl, rfl, rfl, rfl, (iv (by omega)), (iv (by omega)), (iv (by omega)), trivial⟩
            exact ⟨by rw [on_len, if_pos c37], by first | (rw [hwas]; omega) | (rw [hwas]; simp), hcm28⟩
          ·
            refine CW.skip ?_
            refine QN.sub (hK28 x.1.d.length _ ?_) ⟨rfl, rfl, rfl, rfl, (iv (by omega)), (iv (by omega)), (iv (by omega)), trivial⟩
            exact ⟨by rw [on_len, if_neg (by simpa using c37)]; omega, by first | (rw [hwas]; omega) | (rw [hwas]; simp), hcm28⟩
        ·
          intro sz Hcutc37 hIcutc37
          obtain ⟨hsz, hwl, hlmcutc37⟩ := hIcutc37
          replace hf := hf.nw hlmcutc37
          replace mx := mx.nw hlmcutc37
          replace hd := hd.nw hlmcutc37
          replace vw := vw.nw hlmcutc37
          replace hm0 := hm0.trN hlmcutc37
          have hz16 := hlmcutc37.size
          have hus := hB1.us
          have hszl : sz ≤ 274877906945 + 274877906944 := by rw [hsz, on_len]; split <;> omega
          refine CW.seq (fun K30 hK30 hE30 => ?_)
          refine CW.block (fun K31 hK31 hX31 hE31 => ?_)
          refine CW.seq (fun K32 hK32 hE32 => ?_)
          refine CW.region ?_
          refine LR.v (Y.move rfl rfl) (Wd.u rfl) rfl rfl ?_
          refine LR.v (Y.move rfl rfl) (Wd.u rfl) rfl rfl ?_
          refine LR.v (Y.nilCheck rfl rfl) (Wd.u rfl) rfl rfl ?_
          refine LR.v (Y.fieldAddr hf.vb.pt rfl Tryd.runUnderlying62 rfl rfl Tryd.sizeOf3 (by decide) rfl) (Wd.u rfl) rfl rfl ?_
          refine LR.v (Y.load1 (hf.vb.pt.drop 1) rfl Tryd.isAgg3 rfl) (Wd.u rfl) rfl rfl ?_
          refine LR.v (Y.gtr rfl rfl rfl) (Wd.u rfl) rfl rfl ?_
          refine LR.v (Y.assign rfl rfl) (Wd.u rfl) rfl rfl ?_
          refine LR.nil ?_
          refine hK32 _ _ ?_
          refine CW.condp rfl (fun c41 => ?_) (fun c41 => ?_)
          ·
            refine CW.seq (fun K33 hK33 hE33 => ?_)
            refine CW.region ?_
            refine LR.v (Y.assign rfl rfl) (Wd.u rfl) rfl rfl ?_
            refine LR.nil ?_
            refine hK33 _ _ ?_
            refine CW.ret (hE31 .ret nofun (by simp) _ _ (hE30 .ret nofun _ _ (hret .ret (.inr rfl) _ _ _ (res1 rfl rfl) ?_)))
            have hE : D1.layE p x.1 = 5 := layE_5 hnm (by omega)
            exact ⟨_, _, by rw [hlay, hE]; rfl, by rw [hlay]; simp only [hE]; exact hf, nx_hm0_hf, hm0⟩
          ·
            refine CW.seq (fun K34 hK34 hE34 => ?_)
            refine CW.region_any (fun Hq => Nw Hcutc37 Hq) [] rfl ?_
            have hqs := Nw.refl Hcutc37
            refine LH.take 0 (by kernel_rfl) rfl (by kernel_rfl) (by kernel_rfl) (by kernel_rfl) (fun Hq hq => Y.move rfl rfl) (Wd.u rfl) rfl rfl hqs ?_
            refine LH.take 2 (by kernel_rfl) rfl (by kernel_rfl) (by kernel_rfl) (by kernel_rfl) (fun Hq hq => Y.move rfl rfl) (Wd.u rfl) rfl rfl hqs ?_
            refine LH.take 4 (by kernel_rfl) rfl (by kernel_rfl) (by kernel_rfl) (by kernel_rfl) (fun Hq hq => Y.move rfl rfl) (Wd.u rfl) rfl rfl hqs ?_
            refine LH.take 6 (by kernel_rfl) rfl (by kernel_rfl) (by kernel_rfl) (by kernel_rfl) (fun Hq hq => Y.move rfl rfl) (Wd.u rfl) rfl rfl hqs ?_
            refine LH.take 7 (by kernel_rfl) rfl (by kernel_rfl) (by kernel_rfl) (by kernel_rfl) (fun Hq hq => Y.nilCheck rfl rfl) (Wd.u rfl) rfl rfl hqs ?_
            refine LH.take 8 (by kernel_rfl) rfl (by kernel_rfl) (by kernel_rfl) (by kernel_rfl) (fun Hq hq => Y.fieldAddr (hf.vb.pt.nw hq) rfl Tryd.runUnderlying62 rfl rfl Tryd.sizeOf3 (by decide) rfl) (Wd.u rfl) rfl rfl hqs ?_
            refine LH.take 9 (by kernel_rfl) rfl (by kernel_rfl) (by kernel_rfl) (by kernel_rfl) (fun Hq hq => Y.load1 ((hf.vb.pt.drop 0).nw hq) rfl Tryd.isAgg3 rfl) (Wd.u rfl) rfl rfl hqs ?_
            refine LH.one (i := 1) (by kernel_rfl) ?_
            -- call (*selvage/simfs.FS).Used
            refine LO.call rfl rfl Tryd.call74 rfl (Wd.u rfl) rfl rfl (used_ct _ _ b D1 w0 _ hf hB1.an (by omega)) (fun v50 H50 r50 => ?_)
            obtain ⟨rfl, hs50⟩ := r50
            replace hf := hf.nw hs50
            replace mx := mx.nw hs50
            replace hd := hd.nw hs50
            replace vw := vw.nw hs50
            replace hm0 := hm0.trN hs50
            have hz17 := hs50.size
            have hq50 := hqs.tr hs50
            refine ⟨.inr hq50, LH.narrow (SH2 := fun Hq => Nw H50 Hq) (fun Hq hq => hq50.tr hq) ?_⟩
            have hqn50 := Nw.refl H50
            refine LH.take 3 (by kernel_rfl) rfl (by kernel_rfl) (by kernel_rfl) (by kernel_rfl) (fun Hq hq => Y.subi rfl rfl rfl (by omega)) (Wd.u rfl) rfl rfl hqn50 ?_
            refine LH.take 5 (by kernel_rfl) rfl (by kernel_rfl) (by kernel_rfl) (by kernel_rfl) (fun Hq hq => Y.addi rfl rfl rfl (by omega)) (Wd.u rfl) rfl rfl hqn50 ?_
            refine LH.take 10 (by kernel_rfl) rfl (by kernel_rfl) (by kernel_rfl) (by kernel_rfl) (fun Hq hq => Y.gtr rfl rfl rfl) (Wd.u rfl) rfl rfl hqn50 ?_
            refine LH.take 11 (by kernel_rfl) rfl (by kernel_rfl) (by kernel_rfl) (by kernel_rfl) (fun Hq hq => Y.assign rfl rfl) (Wd.u rfl) rfl rfl hqn50 ?_
            refine LH.done (by kernel_rfl) ?_
            have hqe := hqn50
            refine hK34 _ _ ?_
            refine CW.condp rfl (fun c48 => ?_) (fun c48 => ?_)
            ·
              refine CW.seq (fun K35 hK35 hE35 => ?_)
              refine CW.region ?_
              refine LR.v (Y.assign rfl rfl) (Wd.u rfl) rfl rfl ?_
              refine LR.nil ?_
              refine hK35 _ _ ?_
              refine CW.ret (hE31 .ret nofun (by simp) _ _ (hE30 .ret nofun _ _ (hret .ret (.inr rfl) _ _ _ (res1 rfl rfl) ?_)))
              have hE : D1.layE p x.1 = 12 := layE_12 hnm (by omega) (by omega)
              exact ⟨_, _, by rw [hlay, hE]; rfl, by rw [hlay]; simp only [hE]; exact hf, nx_hm0_hf, hm0⟩
            ·
              refine CW.skip ?_
              refine hK31 _ _ ?_
              refine hK30 _ _ ?_
              refine CW.seq (fun K36 hK36 hE36 => ?_)
              refine CW.seq (fun K37 hK37 hE37 => ?_)
              refine CW.region ?_
              refine LR.v (Y.move rfl rfl) (Wd.u rfl) rfl rfl ?_
              refine LR.v (Y.eql rfl rfl rfl) (Wd.u rfl) rfl rfl ?_
              refine LR.nil ?_
              refine hK37 _ _ ?_
              refine CW.condp rfl (fun c61 => ?_) (fun c61 => ?_)
              ·
                exfalso; omega
              ·
                refine CW.skip ?_
                refine hK36 _ _ ?_
                refine CW.seq (fun K38 hK38 hE38 => ?_)
                refine CW.region ?_
                refine LR.v (Y.fieldAddr vw.pt rfl Tryd.runUnderlying93 rfl rfl Tryd.sizeOf23 (by decide) rfl) (Wd.u rfl) rfl rfl ?_
                refine LR.v (Y.load1 (vw.pt.drop 1) rfl Tryd.isAgg23 rfl) (Wd.u rfl) rfl rfl ?_
                -- call slices.Clone[[]byte,byte]
                refine LR.call rfl Tryd.call23 rfl (Wd.u rfl) rfl rfl (bclone_ct _ x.1.d w0 _ hd.any (by omega)) (fun v71 H71 r71 => ?_)
                obtain ⟨s71, k71, rfl, ow71, hk71, hs71⟩ := r71
                have dj88 : DL k71 K := DL.app2 (DL.zK) hf.bk hk71
                have df89 := DF.app (DF.z) (bf_mx.mono hm0.size) hk71
                have df90 := DF.app (DF.z) (bf_hd.mono hm0.size) hk71
                have dj91 : Dj (H0.size + 1) k71 := Dj.app (Dj.z) vw.lt hk71
                have nx92 : Nx 0 H0.size k71 := Nx.tr (Nx.refl 0 _) hk71 hm0.size
                replace hf := hf.nw hs71
                replace mx := mx.nw hs71
                replace hd := hd.nw hs71
                replace vw := vw.nw hs71
                replace hm0 := hm0.trN hs71
                have hz18 := hs71.size
                have hle_ow71 := ow71.le
                refine LR.v (Y.fieldAddr vw.pt rfl Tryd.runUnderlying93 rfl rfl Tryd.sizeOf23 (by decide) rfl) (Wd.u rfl) rfl rfl ?_
                refine LR.s (S.var1 vw 1 ([.bool x.1.b, s71.v]) rfl rfl rfl (rfl) Tryd.sizeOf23 (by simp) (rfl)) (Wd.u rfl) rfl (fun H19_4 r19_4 => ?_)
                obtain ⟨vw, hs19_4⟩ := r19_4
                replace hs19_4 := hs19_4.md1
                replace hf := hf.upL hs19_4 (DKL.cons dj1 DKL.nil)
                replace mx := mx.upL hs19_4 (DFL.cons df2 DFL.nil)
                replace hd := hd.upL hs19_4 (DFL.cons df3 DFL.nil)
                replace ow71 := ow71.upL hs19_4 (DL.cons dj91.symm DL.nil)
                replace hm0 := hm0.trL hs19_4 (MIL.cons (MI.app MI.z (nx4) (Nat.le_refl _)) MIL.nil)
                have hz19 := hs19_4.size
                refine LR.nil ?_
                refine hK38 _ _ ?_
                refine CW.seq (fun K39 hK39 hE39 => ?_)
                obtain ⟨nvB, svB, wvB, kwB, lwB, hfiB⟩ := hf.fil i hil
                have hop : Mo (Ms [(bi + 1)]) H19_4 H19_4 := Mo.refl _ _
                have km93 : KM K (bi + 1) := (hf.kmf hfiB hbi)
                have vf2 := hfiB.atb hbi
                have hlt_vf2 := vf2.lt
                have df94 := DFL.at (dmx) km93
                have df95 := DFL.at (dfd) km93
                have dj96 : Dj (H0.size + 1) (bi + 1) := DL.at (dj1) km93
                have dj97 : Dj k71 (bi + 1) := DL.at (dj88) km93
                have nx98 : MI K H0.size (bi + 1) := MIL.at (MIL.ofK (nx_hm0_hf) (by intro k hk; simp [hk])) km93
                have nx99 := Nx.refl (bi + 1) H19_4.size
                refine CW.region_any (fun Hq => Nw H19_4 Hq) [11, 12, 13, 14] rfl ?_
                have hq20 : Nw H19_4 H19_4 := Mo.refl _ _
                refine LH.take 0 (by kernel_rfl) rfl (by kernel_rfl) (by kernel_rfl) (by kernel_rfl) (fun Hq hq => Y.cast (v2 := ptr bi) (Y.move rfl rfl) (hbv)) (Wd.u rfl) rfl rfl hq20 ?_
                refine LH.take 1 (by kernel_rfl) rfl (by kernel_rfl) (by kernel_rfl) (by kernel_rfl) (fun Hq hq => Y.loadN (vw.pt.nw hq) rfl Tryd.isAgg93 Tryd.sizeOf93 (rfl) rfl) (Wd.u rfl) rfl rfl hq20 ?_
                refine LH.take 2 (by kernel_rfl) rfl (by kernel_rfl) (by kernel_rfl) (by kernel_rfl) (fun Hq hq => Y.cast (v2 := ptr bi) (Y.move rfl rfl) (hbv)) (Wd.u rfl) rfl rfl hq20 ?_
                refine LH.take 3 (by kernel_rfl) rfl (by kernel_rfl) (by kernel_rfl) (by kernel_rfl) (fun Hq hq => Y.nilCheck rfl rfl) (Wd.u rfl) rfl rfl hq20 ?_
                refine LH.take 4 (by kernel_rfl) rfl (by kernel_rfl) (by kernel_rfl) (by kernel_rfl) (fun Hq hq => Y.fieldAddr (vf2.pt.nw hq) rfl Tryd.runUnderlying78 rfl rfl Tryd.sizeOf75 (by decide) rfl) (Wd.u rfl) rfl rfl hq20 ?_
                refine LH.take 5 (by kernel_rfl) rfl (by kernel_rfl) (by kernel_rfl) (by kernel_rfl) (fun Hq hq => Y.fieldAddr (vf2.pt.nw hq) rfl Tryd.runUnderlying75 rfl rfl Tryd.sizeOf23 (by decide) rfl) (Wd.u rfl) rfl rfl hq20 ?_
                refine LH.take 6 (by kernel_rfl) rfl (by kernel_rfl) (by kernel_rfl) (by kernel_rfl) (fun Hq hq => Y.load1 (vf2.pt.nw hq) rfl Tryd.isAgg23 rfl) (Wd.u rfl) rfl rfl hq20 ?_
                refine LH.take 7 (by kernel_rfl) rfl (by kernel_rfl) (by kernel_rfl) (by kernel_rfl) (fun Hq hq => Y.fieldAddr (vw.pt.nw hq) rfl Tryd.runUnderlying93 rfl rfl Tryd.sizeOf23 (by decide) rfl) (Wd.u rfl) rfl rfl hq20 ?_
                refine LH.take 8 (by kernel_rfl) rfl (by kernel_rfl) (by kernel_rfl) (by kernel_rfl) (fun Hq hq => Y.load1 ((vw.pt.drop 1).nw hq) rfl Tryd.isAgg23 rfl) (Wd.u rfl) rfl rfl hq20 ?_
                refine LH.take 9 (by kernel_rfl) rfl (by kernel_rfl) (by kernel_rfl) (by kernel_rfl) (fun Hq hq => Y.len (ow71.rd.nw hq) rfl Tryd.runUnderlying23 rfl) (Wd.u rfl) rfl rfl hq20 ?_
                refine LH.one (i := 10) (by kernel_rfl) ?_
                -- call (selvage/simfs.write).on
                refine LO.call rfl rfl Tryd.call75 rfl (Wd.u rfl) rfl rfl (on_ct (x.1, s71) nvB _ x.1.d.length w0 _ ow71.rd.any hfiB.hn.any (Nat.le_refl _) (by rw [hnow2]; omega)) (fun v83 H83 r83 => ?_)
                obtain ⟨s83, k83, rfl, ow83, hk83, hs83⟩ := r83
                have df100 := DF.app (DF.z) (bf_mx.mono hm0.size) hk83
                have df101 := DF.app (DF.z) (bf_hd.mono hm0.size) hk83
                have dj102 : Dj (H0.size + 1) k83 := Dj.app (Dj.z) vw.lt hk83
                have dj103 : Dj k71 k83 := Dj.app (Dj.z) ow71.le hk83
                have dj104 : Dj (bi + 1) k83 := Dj.app (Dj.z) vf2.lt hk83
                have nx105 : Nx 0 H0.size k83 := Nx.tr (Nx.refl 0 _) hk83 hm0.size
                have nx106 : Nx 0 H19_4.size k83 := Nx.tr (Nx.refl 0 _) hk83 hop.size
                have nx107 : Nx 0 H19_4.size k83 := Nx.tr (Nx.refl 0 _) hk83 hq20.size
                replace mx := mx.nw hs83
                replace hd := hd.nw hs83
                replace vw := vw.nw hs83
                replace ow71 := ow71.nw hs83
                replace vf2 := vf2.nw hs83
                replace hm0 := hm0.trN hs83
                replace hop := hop.trN hs83
                replace hq20 := hq20.tr hs83
                have hz20 := hs83.size
                have hle_ow83 := ow83.le
                refine ⟨.inr hq20, LH.narrow (SH2 := fun Hq => Mo (Ms [k83]) H83 Hq) (fun Hq hq => (Mo.trL (ks := []) (hq20.mdn []) hq (MIL.cons (MI.app MI.z (nx107) (Nat.le_refl _)) MIL.nil)).nil) ?_⟩
                have hq20 : Mo (Ms [k83]) H83 H83 := Mo.refl _ _
                have nx108 := Nx.refl k83 H83.size
                refine LH.one (i := 11) (by kernel_rfl) ?_
                refine LO.v rfl (Y.nilCheck rfl rfl) (Wd.u rfl) rfl rfl (.inl rfl) ?_
                refine LH.one (i := 12) (by kernel_rfl) ?_
                refine LO.v rfl (Y.fieldAddr vf2.pt rfl Tryd.runUnderlying78 rfl rfl Tryd.sizeOf75 (by decide) rfl) (Wd.u rfl) rfl rfl (.inl rfl) ?_
                refine LH.one (i := 13) (by kernel_rfl) ?_
                refine LO.v rfl (Y.fieldAddr vf2.pt rfl Tryd.runUnderlying75 rfl rfl Tryd.sizeOf23 (by decide) rfl) (Wd.u rfl) rfl rfl (.inl rfl) ?_
                refine LH.one (i := 14) (by kernel_rfl) ?_
                refine LO.s rfl (S.var1 vf2 0 ([s83.v, svB.v, wvB.v]) rfl rfl rfl (rfl) Tryd.sizeOf23 (by simp) (rfl)) (Wd.u rfl) rfl (fun H20_14 r20_14 => ?_)
                obtain ⟨vf2, hs20_14⟩ := r20_14
                replace hs20_14 := hs20_14.md1
                replace mx := mx.upL hs20_14 (DFL.cons df94 DFL.nil)
                replace hd := hd.upL hs20_14 (DFL.cons df95 DFL.nil)
                replace vw := vw.upL hs20_14 (DL.cons dj96 DL.nil)
                replace ow71 := ow71.upL hs20_14 (DL.cons dj97 DL.nil)
                replace ow83 := ow83.upL hs20_14 (DL.cons dj104.symm DL.nil)
                replace hm0 := hm0.trL hs20_14 (MIL.cons (nx98) MIL.nil)
                replace hop := hop.trL hs20_14 (MIL.cons (MI.app (MI.root (by simp)) (nx99) (Nat.le_refl _)) MIL.nil)
                -- LOST hq20
                have hz21 := hs20_14.size
                refine ⟨.inl rfl, ?_⟩
                refine LH.done (by kernel_rfl) ?_
                have dj109 : DL (H0.size + 1) (k83 :: K) := (DL.cons (dj102) (dj1))
                have dj110 : DL k71 (k83 :: K) := (DL.cons (dj103) (dj88))
                have df111 : DFL _ (k83 :: K) := (DFL.cons (df100) (dmx))
                have df112 : DFL _ (k83 :: K) := (DFL.cons (df101) (dfd))
                have nx113 : NxK K H0.size (k83 :: K) := (NxK.cons (nx105) (nx_hm0_hf))
                replace hf := hf.fnow hil hfiB hbi hop vf2 ow83 (DL.nxK hf.bk (nx106))
                have hbk_hf := hf.bk
                refine hK39 _ _ ?_
                refine CW.seq (fun K40 hK40 hE40 => ?_)
                have hil2 := hil
                rw [← fl_put] at hil2
                obtain ⟨nvC, svC, wvC, kwC, lwC, hfiC⟩ := hf.fil i hil2
                have hlw : lwC.length ≤ 274877906945 := by have h9 := congrArg List.length hfiC.lw; rw [List.length_map, fget_put hil] at h9; rw [h9]; exact hwi
                have hop : Mo (Ms [(bi + 1), kwC]) H20_14 H20_14 := Mo.refl _ _
                have km114 : KM (k83 :: K) (bi + 1) := (hf.kmf hfiC hbi)
                have vf2 := hfiC.atb hbi
                have hlt_vf2 := vf2.lt
                have df115 := DFL.at (df111) km114
                have df116 := DFL.at (df112) km114
                have dj117 : Dj (H0.size + 1) (bi + 1) := DL.at (dj109) km114
                have dj118 : Dj k71 (bi + 1) := DL.at (dj110) km114
                have nx119 : MI K H0.size (bi + 1) := MIL.at (MIL.ofK (nx113) (by intro k hk; simp [hk])) km114
                have nx120 := Nx.refl (bi + 1) H20_14.size
                have km121 : KM (k83 :: K) kwC := (hf.km hfiC.rk (by simp))
                have hw := hfiC.hw
                have hle_hw := hw.le
                have df122 := DFL.at (df111) km121
                have df123 := DFL.at (df112) km121
                have dj124 : Dj (H0.size + 1) kwC := DL.at (dj109) km121
                have dj125 : Dj k71 kwC := DL.at (dj110) km121
                have nx126 : MI K H0.size kwC := MIL.at (MIL.ofK (nx113) (by intro k hk; simp [hk])) km121
                have nx127 := Nx.refl kwC H20_14.size
                have dj128 : Dj (bi + 1) kwC := hfiC.ne hbi
                refine CW.region_any (fun Hq => Mo (Ms [kwC]) H20_14 Hq) [8, 9, 10] rfl ?_
                have hq21 : Mo (Ms [kwC]) H20_14 H20_14 := Mo.refl _ _
                have nx129 := Nx.refl kwC H20_14.size
                refine LH.take 0 (by kernel_rfl) rfl (by kernel_rfl) (by kernel_rfl) (by kernel_rfl) (fun Hq hq => Y.cast (v2 := ptr bi) (Y.move rfl rfl) (hbv)) (Wd.u rfl) rfl rfl hq21 ?_
                refine LH.take 1 (by kernel_rfl) rfl (by kernel_rfl) (by kernel_rfl) (by kernel_rfl) (fun Hq hq => Y.cast (v2 := ptr bi) (Y.move rfl rfl) (hbv)) (Wd.u rfl) rfl rfl hq21 ?_
                refine LH.take 2 (by kernel_rfl) rfl (by kernel_rfl) (by kernel_rfl) (by kernel_rfl) (fun Hq hq => Y.nilCheck rfl rfl) (Wd.u rfl) rfl rfl hq21 ?_
                refine LH.take 3 (by kernel_rfl) rfl (by kernel_rfl) (by kernel_rfl) (by kernel_rfl) (fun Hq hq => Y.fieldAddr (vf2.upL hq (DL.cons dj128 DL.nil)).pt rfl Tryd.runUnderlying78 rfl rfl Tryd.sizeOf76 (by decide) rfl) (Wd.u rfl) rfl rfl hq21 ?_
                refine LH.take 4 (by kernel_rfl) rfl (by kernel_rfl) (by kernel_rfl) (by kernel_rfl) (fun Hq hq => Y.load1 ((vf2.upL hq (DL.cons dj128 DL.nil)).pt.drop 2) rfl Tryd.isAgg76 rfl) (Wd.u rfl) rfl rfl hq21 ?_
                refine LH.take 5 (by kernel_rfl) rfl (by kernel_rfl) (by kernel_rfl) (by kernel_rfl) (fun Hq hq => Y.loadN (vw.upL hq (DL.cons dj124 DL.nil)).pt rfl Tryd.isAgg93 Tryd.sizeOf93 (rfl) rfl) (Wd.u rfl) rfl rfl hq21 ?_
                refine LH.one (i := 6) (by kernel_rfl) ?_
                refine LO.z rfl (Z.litw _ ([(x.1, s71)]) rfl inf76 rfl rfl rfl (by decide) (by decide) fW_len fW_one (rfl)) (Wd.u rfl) rfl rfl (fun v93 H93 r93 => ?_)
                obtain ⟨ow93, hs93, ob93, hH93⟩ := r93
                have hzs93 : H93.size = H20_14.size + 1 := by rw [hH93]; simp
                have df130 := (DF.new (bf_mx.mono hm0.size) : DF _ (H20_14.size + 1))
                have df131 := (DF.new (bf_hd.mono hm0.size) : DF _ (H20_14.size + 1))
                have dj132 : Dj (H0.size + 1) (H20_14.size + 1) := Dj.new vw.lt
                have dj133 : Dj k71 (H20_14.size + 1) := Dj.new ow71.le
                have dj134 : Dj (bi + 1) (H20_14.size + 1) := Dj.new vf2.lt
                have dj135 : Dj kwC (H20_14.size + 1) := Dj.new hw.le
                have nx136 : Nx 0 H0.size (H20_14.size + 1) := Nx.new hm0.size
                have nx137 : Nx 0 H20_14.size (H20_14.size + 1) := Nx.new hop.size
                have nx138 : Nx 0 H20_14.size (H20_14.size + 1) := Nx.new hq21.size
                replace mx := mx.nw hs93
                replace hd := hd.nw hs93
                replace vw := vw.nw hs93
                replace ow71 := ow71.nw hs93
                replace vf2 := vf2.nw hs93
                replace hw := hw.nw hs93
                replace hm0 := hm0.trN hs93
                replace hop := hop.trN hs93
                replace hq21 := hq21.trN hs93
                have hz22 := hs93.size
                refine ⟨.inr hq21, LH.narrow (SH2 := fun Hq => Mo (Ms [kwC, (H20_14.size + 1)]) H93 Hq) (fun Hq hq => hq21.trL hq (MIL.cons (MI.app (MI.root (by simp)) (nx129) (Nat.le_refl _)) (MIL.cons (MI.app MI.z (nx138) (Nat.le_refl _)) MIL.nil))) ?_⟩
                have hq21 : Mo (Ms [kwC, (H20_14.size + 1)]) H93 H93 := Mo.refl _ _
                have nx139 := Nx.refl kwC H93.size
                have nx140 := Nx.refl (H20_14.size + 1) H93.size
                refine LH.one (i := 7) (by kernel_rfl) ?_
                refine LO.z rfl (Z.apnd hw ow93.rd rfl inf76 rfl rfl (by first | omega | (simp; omega)) (by first | omega | (simp; omega))) (Wd.u rfl) rfl rfl (fun v94 H94 r94 => ?_)
                obtain ⟨kw2, hw, hk94, hs94⟩ := r94
                replace hk94 : Nx kwC H93.size kw2 := hk94
                replace hs94 := hs94.md
                have df141 := DF.app (df122) (bf_mx.mono hm0.size) hk94
                have df142 := DF.app (df123) (bf_hd.mono hm0.size) hk94
                have dj143 : Dj (H0.size + 1) kw2 := Dj.app (dj124) vw.lt hk94
                have dj144 : Dj k71 kw2 := Dj.app (dj125) ow71.le hk94
                have dj145 : Dj (bi + 1) kw2 := Dj.app (dj128) vf2.lt hk94
                have dj146 : Dj (H20_14.size + 1) kw2 := Dj.app (dj135.symm) ow93.le hk94
                have nx147 : MI K H0.size kw2 := MI.app (nx126) hk94 hm0.size
                have nx148 : Nx kwC H20_14.size kw2 := Nx.tr (nx127) hk94 hop.size
                have nx149 : Nx kwC H93.size kw2 := Nx.tr (nx139) hk94 hq21.size
                replace mx := mx.upL hs94 (DFL.cons df122 DFL.nil)
                replace hd := hd.upL hs94 (DFL.cons df123 DFL.nil)
                replace vw := vw.upL hs94 (DL.cons dj124 DL.nil)
                replace ow71 := ow71.upL hs94 (DL.cons dj125 DL.nil)
                replace vf2 := vf2.upL hs94 (DL.cons dj128 DL.nil)
                replace ow93 := ow93.upL hs94 (DL.cons dj135.symm DL.nil)
                replace hm0 := hm0.trL hs94 (MIL.cons (nx126) MIL.nil)
                replace hop := hop.trL hs94 (MIL.cons (MI.app (MI.root (by simp)) (nx127) (Nat.le_refl _)) MIL.nil)
                replace hq21 := hq21.trL hs94 (MIL.cons (MI.app (MI.root (by simp)) (nx139) (Nat.le_refl _)) MIL.nil)
                have hz23 := hs94.size
                have hle_hw := hw.le
                refine ⟨.inr hq21, LH.narrow (SH2 := fun Hq => Mo (Ms [kw2, (H20_14.size + 1)]) H94 Hq) (fun Hq hq => hq21.trL hq (MIL.cons (MI.app (MI.root (by simp)) (nx149) (Nat.le_refl _)) (MIL.cons (MI.app (MI.root (by simp)) (nx140) (Nat.le_refl _)) MIL.nil))) ?_⟩
                have hq21 : Mo (Ms [kw2, (H20_14.size + 1)]) H94 H94 := Mo.refl _ _
                have nx150 := Nx.refl kw2 H94.size
                have nx151 := Nx.refl (H20_14.size + 1) H94.size
                refine LH.one (i := 8) (by kernel_rfl) ?_
                refine LO.v rfl (Y.nilCheck rfl rfl) (Wd.u rfl) rfl rfl (.inl rfl) ?_
                refine LH.one (i := 9) (by kernel_rfl) ?_
                refine LO.v rfl (Y.fieldAddr vf2.pt rfl Tryd.runUnderlying78 rfl rfl Tryd.sizeOf76 (by decide) rfl) (Wd.u rfl) rfl rfl (.inl rfl) ?_
                refine LH.one (i := 10) (by kernel_rfl) ?_
                refine LO.s rfl (S.var1 vf2 2 ([nvC.v, svC.v, v94]) rfl rfl rfl (hw.rd.oneCell) Tryd.sizeOf76 (by simp) (rfl)) (Wd.u rfl) rfl (fun H21_10 r21_10 => ?_)
                obtain ⟨vf2, hs21_10⟩ := r21_10
                replace hs21_10 := hs21_10.md1
                replace mx := mx.upL hs21_10 (DFL.cons df115 DFL.nil)
                replace hd := hd.upL hs21_10 (DFL.cons df116 DFL.nil)
                replace vw := vw.upL hs21_10 (DL.cons dj117 DL.nil)
                replace ow71 := ow71.upL hs21_10 (DL.cons dj118 DL.nil)
                replace hw := hw.upL hs21_10 (DL.cons dj145.symm DL.nil)
                replace ow93 := ow93.upL hs21_10 (DL.cons dj134.symm DL.nil)
                replace hm0 := hm0.trL hs21_10 (MIL.cons (nx119) MIL.nil)
                replace hop := hop.trL hs21_10 (MIL.cons (MI.app (MI.root (by simp)) (nx120) (Nat.le_refl _)) MIL.nil)
                -- LOST hq21
                have hz24 := hs21_10.size
                refine ⟨.inl rfl, ?_⟩
                refine LH.done (by kernel_rfl) ?_
                obtain ⟨wv2, rfl⟩ : ∃ s : SV, v94 = s.v := ⟨toSV v94, hw.sv.symm⟩
                have dj152 : DL (H0.size + 1) (k71 :: (kw2 :: (k83 :: K))) := (DL.cons (dj91) ((DL.cons (dj143) (dj109))))
                have df153 : DFL _ (k71 :: (kw2 :: (k83 :: K))) := (DFL.cons (df89) ((DFL.cons (df141) (df111))))
                have df154 : DFL _ (k71 :: (kw2 :: (k83 :: K))) := (DFL.cons (df90) ((DFL.cons (df142) (df112))))
                have nx155 : NxK K H0.size (k71 :: (kw2 :: (k83 :: K))) := (NxK.cons (nx92) ((NxK.app (nx113) (km121) (nx148) (by omega))))
                replace hf := hf.fwr hil2 hfiC hbi hop vf2 hw (nx148) ow71 (DL.cons (dj144) (dj110))
                have hbk_hf := hf.bk
                refine hK40 _ _ ?_
                refine CW.seq (fun K41 hK41 hE41 => ?_)
                refine CW.region ?_
                refine LR.v (Y.assign rfl rfl) (Wd.u rfl) rfl rfl ?_
                refine LR.nil ?_
                refine hK41 _ _ ?_
                refine CW.ret (hret .ret (.inr rfl) _ _ _ (res1 rfl rfl) ?_)
                have hE0 : D1.layE p x.1 = 0 := layE_0 hnm (by omega) (by omega)
                exact ⟨_, _, by rw [hlay, hE0]; rfl, by rw [hlay]; simp only [hE0, if_true]; first | (rw [← write_some hnow hil]; rw [← hwas] at hf; exact hf) | (rw [← write_none hnow]; subst hie; exact hf), nx155, hm0⟩

end Go.Proofs.YtdliddjkacbggaaDoor.SimH
/-
  The disk: what is done to files and names.
-/
namespace Go.Proofs.YtdliddjkacbggaaDoor.SimI
open Go.Proofs.YtdliddjkacbggaaDoor.E Go.RowKit Go.Proofs.YtdliddjkacbggaaDoor.SimA Go.Proofs.YtdliddjkacbggaaDoor.SimB Go.Proofs.YtdliddjkacbggaaDoor.SimC Go.Proofs.YtdliddjkacbggaaDoor.SimD Go.Proofs.YtdliddjkacbggaaDoor.SimE Go.Proofs.YtdliddjkacbggaaDoor.SimF Go.Proofs.YtdliddjkacbggaaDoor.SimG Go.Proofs.YtdliddjkacbggaaDoor.SimH
set_option maxRecDepth 20000
set_option linter.unusedVariables false
set_option linter.unusedSimpArgs false
set_option linter.unusedSectionVars false

theorem sync_dead {D : Dk} {p : Pth} (h : D.begin.1 = false) : D.sync p = (11, D.begin.2) := by unfold Dk.sync; simp [h]
theorem sync_go {D : Dk} {p : Pth} (h : D.begin.1 = true) : D.sync p = (D.begin.2.look p, if D.begin.2.look p = 0 then D.begin.2.syncF ((mget D.begin.2.now p).getD 0) else D.begin.2) := by unfold Dk.sync; simp [h]
theorem ren_dead {D : Dk} {p q : Pth} (h : D.begin.1 = false) : D.rename p q = (11, D.begin.2) := by unfold Dk.rename; simp [h]
theorem ren_go {D : Dk} {p q : Pth} (h : D.begin.1 = true) : D.rename p q = (D.begin.2.renE p q, if D.begin.2.renE p q = 0 ∧ p ≠ q then D.begin.2.change ⟨p, q, some ((mget D.begin.2.now p).getD 0)⟩ else D.begin.2) := by unfold Dk.rename; simp [h]
theorem renE_7 {D : Dk} {p q : Pth} (h : nameB p = false ∨ nameB q = false) : D.renE p q = 7 := by unfold Dk.renE; rw [if_pos h]
theorem renE_13 {D : Dk} {p q : Pth} (h : nameB p = true) (h2 : nameB q = true) (h3 : dirP p ≠ dirP q) : D.renE p q = 13 := by unfold Dk.renE; rw [if_neg (by simp [h, h2]), if_pos h3]
theorem renE_l {D : Dk} {p q : Pth} (h : nameB p = true) (h2 : nameB q = true) (h3 : dirP p = dirP q) : D.renE p q = D.look p := by unfold Dk.renE; rw [if_neg (by simp [h, h2]), if_neg (by simpa using h3)]
theorem sd_dead {D : Dk} {p : Pth} (h : D.begin.1 = false) : D.syncDir p = (11, D.begin.2) := by unfold Dk.syncDir; simp [h]
theorem sd_go {D : Dk} {p : Pth} (h : D.begin.1 = true) : D.syncDir p = (dirE p, if dirE p = 0 then D.begin.2.stayD p else D.begin.2) := by unfold Dk.syncDir; simp [h]
theorem name_ne {p : Pth} (h : nameB p = true) : p ≠ [] := ((name_iff p).1 h).1
theorem mclone_ct {κ β : Type} {fk : κ → Value} {fv : β → Value} (mb : Nat) (m : List (κ × β)) (w0 : World) (H0 : Heap) (h : Mp H0 fk fv mb m) : Ct Tryd.prog w0 71 #[.map (some mb)] H0 (fun r H2 => ∃ b2 : Nat, r = .map (some b2) ∧ Mp H2 fk fv b2 m ∧ Nx 0 H0.size (b2 + 1) ∧ Nw H0 H2) := by
  intro w ha
  obtain ⟨r, es, clock, hv, h2, h3, h4, h5⟩ := h.mo.ex
  obtain rfl := h2
  have hb : w.heap[r]? = some (.map es clock) := by rw [ha.heap]; exact h3
  refine (AnyW.maps_Clone Tryd.mclone71 r es clock w hb).mono ?_
  rintro e w' ⟨rfl, rfl⟩
  refine ⟨_, H0.push (.map es clock), rfl, ha.alloc _, H0.size, by rw [ha.heap], ⟨⟨H0.size, es, clock, rfl, rfl, by simp, h4, h5⟩⟩, .inr (.inr (by omega)), Nw.pu _ _⟩

set_option maxHeartbeats 2000000 in
theorem write_ct (mx_ : Int) (K : List Nat) (g : Gh) (b : Nat) (D : Dk) (p : Pth) (sd : SV) (d : List UInt8) (F : Nat → Prop) (w0 : World) (H0 : Heap)
    (hf : PDk K g H0 b D) (mx : MX mx_ H0) (bf_mx : BF (fun b => b = 0) H0.size) (dmx : DFL (fun b => b = 0) K) (hd : Rd F H0 fB 1 sd.v d) (bf_hd : BF F H0.size) (dfd : DFL F K) (hl : p.length ≤ 4294967280) (hB : Bd 274877906944 D) (hdl : d.length ≤ 274877906944) :
    Ct Tryd.prog w0 46 #[ptr b, Str p, sd.v] H0 (fun r H2 => ∃ K2 : List Nat, ∃ g2 : Gh, r = .int .i64 ((D.lay p ⟨false, d⟩).1 : Int) ∧ (PDk K2 g2 H2 b (D.lay p ⟨false, d⟩).2) ∧ (NxK K H0.size K2) ∧ Mo (Ms K) H0 H2) := by
  refine Ct.enter (args := [ptr b, Str p, sd.v]) Tryd.func46 rfl rfl rfl ?_
  intro Q0 hret
  have hm0 : Mo (Ms K) H0 H0 := Mo.refl _ _
  have nx_hm0_hf := NxK.refl K H0.size
  have hbk_hf := hf.bk
  refine CW.seq (fun K1 hK1 hE1 => ?_)
  refine CW.region ?_
  refine LR.v (Y.assign rfl rfl) (Wd.u rfl) rfl rfl ?_
  refine LR.nil ?_
  refine hK1 _ _ ?_
  refine CW.seq (fun K2 hK2 hE2 => ?_)
  refine CW.region ?_
  refine LR.v (Y.move rfl rfl) (Wd.u rfl) rfl rfl ?_
  refine LR.v (Y.move rfl rfl) (Wd.u rfl) rfl rfl ?_
  refine LR.v (Y.move rfl rfl) (Wd.u rfl) rfl rfl ?_
  refine LR.v (Y.build (v := wV (⟨false, d⟩, sd)) rfl rfl (by intro w; kernel_rfl)) (Wd.u rfl) rfl rfl ?_
  -- call (*selvage/simfs.FS).lay
  refine LR.call rfl Tryd.call54 rfl (Wd.u rfl) rfl rfl (lay_ct mx_ K g b D p (⟨false, d⟩, sd) F w0 _ hf mx (bf_mx.mono (by omega)) dmx hd (bf_hd.mono (by omega)) dfd hl hB hdl) (fun v11 H11 r11 => ?_)
  have ql1 := hf.bk
  obtain ⟨K11, g11, rfl, hf, hkd11, hs11⟩ := r11
  have df2 := DFL.appK (dmx) (bf_mx.mono hm0.size) hkd11
  have df3 := DFL.appK (dfd) (bf_hd.mono hm0.size) hkd11
  have nx4 : NxK K H0.size K11 := NxK.tr (nx_hm0_hf) hkd11 hm0.size
  replace mx := mx.upL hs11 (dmx)
  replace hd := hd.upL hs11 (dfd)
  replace hm0 := hm0.trL hs11 (MIL.ofK (nx_hm0_hf) (by intro k hk; simp [hk]))
  have hz1 := hs11.size
  have hbk_hf := hf.bk
  refine LR.v (Y.assign rfl rfl) (Wd.u rfl) rfl rfl ?_
  refine LR.nil ?_
  refine hK2 _ _ ?_
  refine CW.ret (hret .ret (.inr rfl) _ _ _ (res1 rfl rfl) ?_)
  exact ⟨_, _, rfl, hf, nx4, hm0⟩

set_option maxHeartbeats 2000000 in
theorem append_ct (mx_ : Int) (K : List Nat) (g : Gh) (b : Nat) (D : Dk) (p : Pth) (sd : SV) (d : List UInt8) (F : Nat → Prop) (w0 : World) (H0 : Heap)
    (hf : PDk K g H0 b D) (mx : MX mx_ H0) (bf_mx : BF (fun b => b = 0) H0.size) (dmx : DFL (fun b => b = 0) K) (hd : Rd F H0 fB 1 sd.v d) (bf_hd : BF F H0.size) (dfd : DFL F K) (hl : p.length ≤ 4294967280) (hB : Bd 274877906944 D) (hdl : d.length ≤ 274877906944) :
    Ct Tryd.prog w0 34 #[ptr b, Str p, sd.v] H0 (fun r H2 => ∃ K2 : List Nat, ∃ g2 : Gh, r = .int .i64 ((D.lay p ⟨true, d⟩).1 : Int) ∧ (PDk K2 g2 H2 b (D.lay p ⟨true, d⟩).2) ∧ (NxK K H0.size K2) ∧ Mo (Ms K) H0 H2) := by
  refine Ct.enter (args := [ptr b, Str p, sd.v]) Tryd.func34 rfl rfl rfl ?_
  intro Q0 hret
  have hm0 : Mo (Ms K) H0 H0 := Mo.refl _ _
  have nx_hm0_hf := NxK.refl K H0.size
  have hbk_hf := hf.bk
  refine CW.seq (fun K1 hK1 hE1 => ?_)
  refine CW.region ?_
  refine LR.v (Y.assign rfl rfl) (Wd.u rfl) rfl rfl ?_
  refine LR.nil ?_
  refine hK1 _ _ ?_
  refine CW.seq (fun K2 hK2 hE2 => ?_)
  refine CW.region ?_
  refine LR.v (Y.move rfl rfl) (Wd.u rfl) rfl rfl ?_
  refine LR.v (Y.move rfl rfl) (Wd.u rfl) rfl rfl ?_
  refine LR.v (Y.move rfl rfl) (Wd.u rfl) rfl rfl ?_
  refine LR.v (Y.build (v := wV (⟨true, d⟩, sd)) rfl rfl (by intro w; kernel_rfl)) (Wd.u rfl) rfl rfl ?_
  -- call (*selvage/simfs.FS).lay
  refine LR.call rfl Tryd.call54 rfl (Wd.u rfl) rfl rfl (lay_ct mx_ K g b D p (⟨true, d⟩, sd) F w0 _ hf mx (bf_mx.mono (by omega)) dmx hd (bf_hd.mono (by omega)) dfd hl hB hdl) (fun v11 H11 r11 => ?_)
  have ql1 := hf.bk
  obtain ⟨K11, g11, rfl, hf, hkd11, hs11⟩ := r11
  have df2 := DFL.appK (dmx) (bf_mx.mono hm0.size) hkd11
  have df3 := DFL.appK (dfd) (bf_hd.mono hm0.size) hkd11
  have nx4 : NxK K H0.size K11 := NxK.tr (nx_hm0_hf) hkd11 hm0.size
  replace mx := mx.upL hs11 (dmx)
  replace hd := hd.upL hs11 (dfd)
  replace hm0 := hm0.trL hs11 (MIL.ofK (nx_hm0_hf) (by intro k hk; simp [hk]))
  have hz1 := hs11.size
  have hbk_hf := hf.bk
  refine LR.v (Y.assign rfl rfl) (Wd.u rfl) rfl rfl ?_
  refine LR.nil ?_
  refine hK2 _ _ ?_
  refine CW.ret (hret .ret (.inr rfl) _ _ _ (res1 rfl rfl) ?_)
  exact ⟨_, _, rfl, hf, nx4, hm0⟩

set_option maxHeartbeats 2000000 in
theorem sync_ct (mx_ : Int) (K : List Nat) (g : Gh) (b : Nat) (D : Dk) (p : Pth) (w0 : World) (H0 : Heap)
    (hf : PDk K g H0 b D) (mx : MX mx_ H0) (bf_mx : BF (fun b => b = 0) H0.size) (dmx : DFL (fun b => b = 0) K) (hl : p.length ≤ 4294967280) (hB : Bd 274877906944 D) :
    Ct Tryd.prog w0 31 #[ptr b, Str p] H0 (fun r H2 => ∃ K2 : List Nat, ∃ g2 : Gh, r = .int .i64 ((D.sync p).1 : Int) ∧ (PDk K2 g2 H2 b (D.sync p).2) ∧ (NxK K H0.size K2) ∧ Mo (Ms K) H0 H2) := by
  refine Ct.enter (args := [ptr b, Str p]) Tryd.func31 rfl rfl rfl ?_
  intro Q0 hret
  have hm0 : Mo (Ms K) H0 H0 := Mo.refl _ _
  have nx_hm0_hf := NxK.refl K H0.size
  have hbk_hf := hf.bk
  have hop0 := hB.op
  have hdm0 := hf.dml
  obtain ⟨D1, hD1⟩ : ∃ D1, D1 = D.begin.2 := ⟨_, rfl⟩
  have hB1 := hB.begin
  rw [← hD1] at hB1
  refine CW.seq (fun K1 hK1 hE1 => ?_)
  refine CW.region ?_
  refine LR.v (Y.assign rfl rfl) (Wd.u rfl) rfl rfl ?_
  refine LR.nil ?_
  refine hK1 _ _ ?_
  refine CW.seq (fun K2 hK2 hE2 => ?_)
  refine CW.seq (fun K3 hK3 hE3 => ?_)
  refine CW.region ?_
  refine LR.v (Y.move rfl rfl) (Wd.u rfl) rfl rfl ?_
  -- call (*selvage/simfs.FS).begin
  refine LR.call rfl Tryd.call53 rfl (Wd.u rfl) rfl rfl (begin_ct K g b D w0 _ hf (by omega)) (fun v8 H8 r8 => ?_)
  obtain ⟨g1, rfl, hf, hg1, hs8⟩ := r8
  replace mx := mx.upL hs8 (dmx)
  replace hm0 := hm0.trL hs8 (MIL.ofK (nx_hm0_hf) (by intro k hk; simp [hk]))
  have hz1 := hs8.size
  rw [← hD1] at hf
  refine LR.v (Y.not rfl rfl) (Wd.u rfl) rfl rfl ?_
  refine LR.nil ?_
  refine hK3 _ _ ?_
  refine CW.cond rfl (fun c9 => ?_) (fun c9 => ?_)
  ·
    refine CW.seq (fun K4 hK4 hE4 => ?_)
    refine CW.region ?_
    refine LR.v (Y.assign rfl rfl) (Wd.u rfl) rfl rfl ?_
    refine LR.nil ?_
    refine hK4 _ _ ?_
    refine CW.ret (hE2 .ret nofun _ _ (hret .ret (.inr rfl) _ _ _ (res1 rfl rfl) ?_))
    have hdd := sync_dead (p := p) (show D.begin.1 = false by simpa using c9)
    exact ⟨_, _, by rw [hdd]; rfl, by rw [hdd]; rw [hD1] at hf; exact hf, nx_hm0_hf, hm0⟩
  ·
    have hgo : D.begin.1 = true := by simpa using c9
    have hops := (begin_true hgo).1
    rw [← hD1] at hops
    have hlay := sync_go (p := p) hgo
    rw [← hD1] at hlay
    refine CW.skip ?_
    refine hK2 _ _ ?_
    refine CW.seq (fun K5 hK5 hE5 => ?_)
    refine CW.region ?_
    refine LR.v (Y.move rfl rfl) (Wd.u rfl) rfl rfl ?_
    refine LR.v (Y.move rfl rfl) (Wd.u rfl) rfl rfl ?_
    -- call (*selvage/simfs.FS).find
    refine LR.call rfl Tryd.call36 rfl (Wd.u rfl) rfl rfl (find_ct mx_ K g1 b D1 p w0 _ mx (bf_mx.mono (by omega)) hf hl) (fun v13 H13 r13 => ?_)
    obtain ⟨rfl, hs13⟩ := r13
    replace hf := hf.nw hs13
    replace mx := mx.nw hs13
    replace hm0 := hm0.trN hs13
    have hz2 := hs13.size
    refine LR.v (Y.move rfl rfl) (Wd.u rfl) rfl rfl ?_
    refine LR.v (Y.extract rfl rfl rfl) (Wd.u rfl) rfl rfl ?_
    refine LR.v (Y.extract rfl rfl rfl) (Wd.u rfl) rfl rfl ?_
    refine LR.v (Y.assign rfl rfl) (Wd.u rfl) rfl rfl ?_
    refine LR.v (Y.assign rfl rfl) (Wd.u rfl) rfl rfl ?_
    refine LR.nil ?_
    refine hK5 _ _ ?_
    refine CW.seq (fun K6 hK6 hE6 => ?_)
    refine CW.seq (fun K7 hK7 hE7 => ?_)
    refine CW.region ?_
    refine LR.v (Y.move rfl rfl) (Wd.u rfl) rfl rfl ?_
    refine LR.v (Y.eql rfl rfl rfl) (Wd.u rfl) rfl rfl ?_
    refine LR.nil ?_
    refine hK7 _ _ ?_
    refine CW.condp rfl (fun c17 => ?_) (fun c17 => ?_)
    ·
      have hlk : D1.look p = 0 := by omega
      obtain ⟨hnm, i, hnow⟩ := look_0 hlk
      have hil := hf.ids.1 p i hnow
      obtain ⟨bi, hbi, hbv⟩ : ∃ bi, g1.fb.getD i 0 = bi ∧ .pointer (fpt g1.fb (if D1.look p = 0 then mget D1.now p else none)) = ptr bi := ⟨_, rfl, by rw [if_pos hlk, hnow]; rfl⟩
      obtain ⟨nvB, svB, wvB, kwB, lwB, hfiB⟩ := hf.fil i hil
      have hop : Mo (Ms [(bi + 1)]) H13 H13 := Mo.refl _ _
      have km1 : KM K (bi + 1) := (hf.kmf hfiB hbi)
      have vf2 := hfiB.atb hbi
      have hlt_vf2 := vf2.lt
      have df2 := DFL.at (dmx) km1
      have nx3 : MI K H0.size (bi + 1) := MIL.at (MIL.ofK (nx_hm0_hf) (by intro k hk; simp [hk])) km1
      have nx4 := Nx.refl (bi + 1) H13.size
      refine CW.region ?_
      refine LR.v (Y.cast (v2 := ptr bi) (Y.move rfl rfl) (hbv)) (Wd.u rfl) rfl rfl ?_
      refine LR.v (Y.cast (v2 := ptr bi) (Y.move rfl rfl) (hbv)) (Wd.u rfl) rfl rfl ?_
      refine LR.v (Y.cast (v2 := ptr bi) (Y.move rfl rfl) (hbv)) (Wd.u rfl) rfl rfl ?_
      refine LR.v (Y.nilCheck rfl rfl) (Wd.u rfl) rfl rfl ?_
      refine LR.v (Y.fieldAddr vf2.pt rfl Tryd.runUnderlying78 rfl rfl Tryd.sizeOf75 (by decide) rfl) (Wd.u rfl) rfl rfl ?_
      refine LR.v (Y.fieldAddr vf2.pt rfl Tryd.runUnderlying75 rfl rfl Tryd.sizeOf23 (by decide) rfl) (Wd.u rfl) rfl rfl ?_
      refine LR.v (Y.load1 vf2.pt rfl Tryd.isAgg23 rfl) (Wd.u rfl) rfl rfl ?_
      refine LR.v (Y.nilCheck rfl rfl) (Wd.u rfl) rfl rfl ?_
      refine LR.v (Y.fieldAddr vf2.pt rfl Tryd.runUnderlying78 rfl rfl Tryd.sizeOf75 (by decide) rfl) (Wd.u rfl) rfl rfl ?_
      refine LR.v (Y.fieldAddr vf2.pt rfl Tryd.runUnderlying75 rfl rfl Tryd.sizeOf23 (by decide) rfl) (Wd.u rfl) rfl rfl ?_
      refine LR.s (S.var1 vf2 1 ([nvB.v, nvB.v, wvB.v]) rfl rfl rfl (rfl) Tryd.sizeOf23 (by simp) (rfl)) (Wd.u rfl) rfl (fun H5_10 r5_10 => ?_)
      obtain ⟨vf2, hs5_10⟩ := r5_10
      replace hs5_10 := hs5_10.md1
      replace mx := mx.upL hs5_10 (DFL.cons df2 DFL.nil)
      replace hm0 := hm0.trL hs5_10 (MIL.cons (nx3) MIL.nil)
      replace hop := hop.trL hs5_10 (MIL.cons (MI.app (MI.root (by simp)) (nx4) (Nat.le_refl _)) MIL.nil)
      have hz3 := hs5_10.size
      refine LR.v (Y.nilCheck rfl rfl) (Wd.u rfl) rfl rfl ?_
      refine LR.v (Y.fieldAddr vf2.pt rfl Tryd.runUnderlying78 rfl rfl Tryd.sizeOf76 (by decide) rfl) (Wd.u rfl) rfl rfl ?_
      refine LR.s (S.var1 vf2 2 ([nvB.v, nvB.v, .slice none 0 0]) rfl rfl rfl (rfl) Tryd.sizeOf76 (by simp) (rfl)) (Wd.u rfl) rfl (fun H5_13 r5_13 => ?_)
      obtain ⟨vf2, hs5_13⟩ := r5_13
      replace hs5_13 := hs5_13.md1
      replace mx := mx.upL hs5_13 (DFL.cons df2 DFL.nil)
      replace hm0 := hm0.trL hs5_13 (MIL.cons (nx3) MIL.nil)
      replace hop := hop.trL hs5_13 (MIL.cons (MI.app (MI.root (by simp)) (nx4) (Nat.le_refl _)) MIL.nil)
      have hz4 := hs5_13.size
      refine LR.nil ?_
      have df5 : DFL _ K := dmx
      have nx6 : NxK K H0.size K := nx_hm0_hf
      replace hf := hf.fsync hil hfiB hbi hop vf2
      have hbk_hf := hf.bk
      refine hK6 _ _ ?_
      refine CW.seq (fun K8 hK8 hE8 => ?_)
      refine CW.region ?_
      refine LR.v (Y.move rfl rfl) (Wd.u rfl) rfl rfl ?_
      refine LR.v (Y.assign rfl rfl) (Wd.u rfl) rfl rfl ?_
      refine LR.nil ?_
      refine hK8 _ _ ?_
      refine CW.ret (hret .ret (.inr rfl) _ _ _ (res1 rfl rfl) ?_)
      exact ⟨_, _, by rw [hlay]; rfl, by rw [hlay]; simp only [hlk, if_true, hnow, Option.getD_some]; exact hf, nx6, hm0⟩
    ·
      refine CW.skip ?_
      refine hK6 _ _ ?_
      refine CW.seq (fun K9 hK9 hE9 => ?_)
      refine CW.region ?_
      refine LR.v (Y.move rfl rfl) (Wd.u rfl) rfl rfl ?_
      refine LR.v (Y.assign rfl rfl) (Wd.u rfl) rfl rfl ?_
      refine LR.nil ?_
      refine hK9 _ _ ?_
      refine CW.ret (hret .ret (.inr rfl) _ _ _ (res1 rfl rfl) ?_)
      exact ⟨_, _, by rw [hlay]; rfl, by rw [hlay]; rw [if_neg (by omega)]; exact hf, nx_hm0_hf, hm0⟩

set_option maxHeartbeats 2000000 in
theorem rename_ct (mx_ : Int) (K : List Nat) (g : Gh) (b : Nat) (D : Dk) (p q : Pth) (w0 : World) (H0 : Heap)
    (hf : PDk K g H0 b D) (mx : MX mx_ H0) (bf_mx : BF (fun b => b = 0) H0.size) (dmx : DFL (fun b => b = 0) K) (hl : p.length ≤ 4294967280) (hl2 : q.length ≤ 4294967280) (hB : Bd 274877906944 D) :
    Ct Tryd.prog w0 49 #[ptr b, Str p, Str q] H0 (fun r H2 => ∃ K2 : List Nat, ∃ g2 : Gh, r = .int .i64 ((D.rename p q).1 : Int) ∧ (PDk K2 g2 H2 b (D.rename p q).2) ∧ (NxK K H0.size K2) ∧ Mo (Ms K) H0 H2) := by
  refine Ct.enter (args := [ptr b, Str p, Str q]) Tryd.func49 rfl rfl rfl ?_
  intro Q0 hret
  have hm0 : Mo (Ms K) H0 H0 := Mo.refl _ _
  have nx_hm0_hf := NxK.refl K H0.size
  have hbk_hf := hf.bk
  have hop0 := hB.op
  have hdm0 := hf.dml
  obtain ⟨D1, hD1⟩ : ∃ D1, D1 = D.begin.2 := ⟨_, rfl⟩
  have hB1 := hB.begin
  rw [← hD1] at hB1
  refine CW.seq (fun K1 hK1 hE1 => ?_)
  refine CW.region ?_
  refine LR.v (Y.assign rfl rfl) (Wd.u rfl) rfl rfl ?_
  refine LR.nil ?_
  refine hK1 _ _ ?_
  refine CW.seq (fun K2 hK2 hE2 => ?_)
  refine CW.seq (fun K3 hK3 hE3 => ?_)
  refine CW.region ?_
  refine LR.v (Y.move rfl rfl) (Wd.u rfl) rfl rfl ?_
  -- call (*selvage/simfs.FS).begin
  refine LR.call rfl Tryd.call53 rfl (Wd.u rfl) rfl rfl (begin_ct K g b D w0 _ hf (by omega)) (fun v10 H10 r10 => ?_)
  obtain ⟨g1, rfl, hf, hg1, hs10⟩ := r10
  replace mx := mx.upL hs10 (dmx)
  replace hm0 := hm0.trL hs10 (MIL.ofK (nx_hm0_hf) (by intro k hk; simp [hk]))
  have hz1 := hs10.size
  rw [← hD1] at hf
  refine LR.v (Y.not rfl rfl) (Wd.u rfl) rfl rfl ?_
  refine LR.nil ?_
  refine hK3 _ _ ?_
  refine CW.cond rfl (fun c11 => ?_) (fun c11 => ?_)
  ·
    refine CW.seq (fun K4 hK4 hE4 => ?_)
    refine CW.region ?_
    refine LR.v (Y.assign rfl rfl) (Wd.u rfl) rfl rfl ?_
    refine LR.nil ?_
    refine hK4 _ _ ?_
    refine CW.ret (hE2 .ret nofun _ _ (hret .ret (.inr rfl) _ _ _ (res1 rfl rfl) ?_))
    have hdd := ren_dead (p := p) (q := q) (show D.begin.1 = false by simpa using c11)
    exact ⟨_, _, by rw [hdd]; rfl, by rw [hdd]; rw [hD1] at hf; exact hf, nx_hm0_hf, hm0⟩
  ·
    have hgo : D.begin.1 = true := by simpa using c11
    have hops := (begin_true hgo).1
    rw [← hD1] at hops
    have hlay := ren_go (p := p) (q := q) hgo
    rw [← hD1] at hlay
    refine CW.skip ?_
    refine hK2 _ _ ?_
    refine CW.seq (fun K5 hK5 hE5 => ?_)
    refine CW.block (fun K6 hK6 hX6 hE6 => ?_)
    refine CW.seq (fun K7 hK7 hE7 => ?_)
    refine CW.region ?_
    refine LR.v (Y.move rfl rfl) (Wd.u rfl) rfl rfl ?_
    -- call selvage/simfs.Name
    refine LR.call rfl Tryd.call27 rfl (Wd.u rfl) rfl rfl (name_ct mx_ p w0 _ mx (bf_mx.mono (by omega)) hl) (fun v14 H14 r14 => ?_)
    obtain ⟨rfl, hs14⟩ := r14
    replace hf := hf.nw hs14
    replace mx := mx.nw hs14
    replace hm0 := hm0.trN hs14
    have hz2 := hs14.size
    refine LR.v (Y.not rfl rfl) (Wd.u rfl) rfl rfl ?_
    refine LR.v (Y.move rfl rfl) (Wd.u rfl) rfl rfl ?_
    refine LR.split (d := 16) rfl (fun g16 => ?_) (fun g16 => ?_)
    ·
      refine LR.gs rfl rfl rfl rfl rfl rfl ?_
      refine LR.gs rfl rfl rfl rfl rfl rfl ?_
      refine LR.gs rfl rfl rfl rfl rfl rfl ?_
      refine LR.v (Y.pick_t rfl rfl rfl) (Wd.u rfl) rfl rfl ?_
      refine LR.v (Y.assign rfl rfl) (Wd.u rfl) rfl rfl ?_
      refine LR.nil ?_
      refine hK7 _ _ ?_
      refine CW.cond_t rfl ?_
      refine CW.seq (fun K8 hK8 hE8 => ?_)
      refine CW.region ?_
      refine LR.v (Y.assign rfl rfl) (Wd.u rfl) rfl rfl ?_
      refine LR.nil ?_
      refine hK8 _ _ ?_
      refine CW.ret (hE6 .ret nofun (by simp) _ _ (hE5 .ret nofun _ _ (hret .ret (.inr rfl) _ _ _ (res1 rfl rfl) ?_)))
      have hE := renE_7 (D := D1) (p := p) (q := q) (by first | exact .inl (by simpa using g16) | exact .inr (by simpa using c12))
      exact ⟨_, _, by rw [hlay, hE]; rfl, by rw [hlay, hE]; exact hf, nx_hm0_hf, hm0⟩
    ·
      refine LR.v (Y.move rfl rfl) (Wd.g rfl rfl rfl) rfl rfl ?_
      -- call selvage/simfs.Name
      refine LR.call rfl Tryd.call27 rfl (Wd.g rfl rfl rfl) rfl rfl (name_ct mx_ q w0 _ mx (bf_mx.mono (by omega)) hl2) (fun v18 H18 r18 => ?_)
      obtain ⟨rfl, hs18⟩ := r18
      replace hf := hf.nw hs18
      replace mx := mx.nw hs18
      replace hm0 := hm0.trN hs18
      have hz3 := hs18.size
      refine LR.v (Y.not rfl rfl) (Wd.g rfl rfl rfl) rfl rfl ?_
      refine LR.v (Y.pick_f rfl rfl rfl) (Wd.u rfl) rfl rfl ?_
      refine LR.v (Y.assign rfl rfl) (Wd.u rfl) rfl rfl ?_
      refine LR.nil ?_
      refine hK7 _ _ ?_
      refine CW.cond rfl (fun c12 => ?_) (fun c12 => ?_)
      ·
        refine CW.seq (fun K9 hK9 hE9 => ?_)
        refine CW.region ?_
        refine LR.v (Y.assign rfl rfl) (Wd.u rfl) rfl rfl ?_
        refine LR.nil ?_
        refine hK9 _ _ ?_
        refine CW.ret (hE6 .ret nofun (by simp) _ _ (hE5 .ret nofun _ _ (hret .ret (.inr rfl) _ _ _ (res1 rfl rfl) ?_)))
        have hE := renE_7 (D := D1) (p := p) (q := q) (by first | exact .inl (by simpa using g16) | exact .inr (by simpa using c12))
        exact ⟨_, _, by rw [hlay, hE]; rfl, by rw [hlay, hE]; exact hf, nx_hm0_hf, hm0⟩
      ·
        refine CW.seq (fun K10 hK10 hE10 => ?_)
        refine CW.region ?_
        refine LR.v (Y.move rfl rfl) (Wd.u rfl) rfl rfl ?_
        -- call selvage/simfs.Dir
        refine LR.call rfl Tryd.call52 rfl (Wd.u rfl) rfl rfl (dir_ct mx_ p w0 _ mx (bf_mx.mono (by omega)) hl) (fun v23 H23 r23 => ?_)
        obtain ⟨rfl, hs23⟩ := r23
        replace hf := hf.nw hs23
        replace mx := mx.nw hs23
        replace hm0 := hm0.trN hs23
        have hz4 := hs23.size
        refine LR.v (Y.move rfl rfl) (Wd.u rfl) rfl rfl ?_
        -- call selvage/simfs.Dir
        refine LR.call rfl Tryd.call52 rfl (Wd.u rfl) rfl rfl (dir_ct mx_ q w0 _ mx (bf_mx.mono (by omega)) hl2) (fun v25 H25 r25 => ?_)
        obtain ⟨rfl, hs25⟩ := r25
        replace hf := hf.nw hs25
        replace mx := mx.nw hs25
        replace hm0 := hm0.trN hs25
        have hz5 := hs25.size
        refine LR.v (Y.sneq rfl rfl rfl) (Wd.u rfl) rfl rfl ?_
        refine LR.v (Y.assign rfl rfl) (Wd.u rfl) rfl rfl ?_
        refine LR.nil ?_
        refine hK10 _ _ ?_
        refine CW.condp rfl (fun c21 => ?_) (fun c21 => ?_)
        ·
          refine CW.seq (fun K11 hK11 hE11 => ?_)
          refine CW.region ?_
          refine LR.v (Y.assign rfl rfl) (Wd.u rfl) rfl rfl ?_
          refine LR.nil ?_
          refine hK11 _ _ ?_
          refine CW.ret (hE6 .ret nofun (by simp) _ _ (hE5 .ret nofun _ _ (hret .ret (.inr rfl) _ _ _ (res1 rfl rfl) ?_)))
          have hE := renE_13 (D := D1) (p := p) (q := q) (by simpa using g16) (by simpa using c12) (by simpa using c21)
          exact ⟨_, _, by rw [hlay, hE]; rfl, by rw [hlay, hE]; exact hf, nx_hm0_hf, hm0⟩
        ·
          have hdq : dirP p = dirP q := by simpa using c21
          have hn1 : nameB p = true := by simpa using g16
          have hn2 : nameB q = true := by simpa using c12
          have hrl := renE_l (D := D1) hn1 hn2 hdq
          refine CW.skip ?_
          refine hK6 _ _ ?_
          refine hK5 _ _ ?_
          refine CW.seq (fun K12 hK12 hE12 => ?_)
          refine CW.region ?_
          refine LR.v (Y.move rfl rfl) (Wd.u rfl) rfl rfl ?_
          refine LR.v (Y.move rfl rfl) (Wd.u rfl) rfl rfl ?_
          -- call (*selvage/simfs.FS).find
          refine LR.call rfl Tryd.call36 rfl (Wd.u rfl) rfl rfl (find_ct mx_ K g1 b D1 p w0 _ mx (bf_mx.mono (by omega)) hf hl) (fun v30 H30 r30 => ?_)
          obtain ⟨rfl, hs30⟩ := r30
          replace hf := hf.nw hs30
          replace mx := mx.nw hs30
          replace hm0 := hm0.trN hs30
          have hz6 := hs30.size
          refine LR.v (Y.move rfl rfl) (Wd.u rfl) rfl rfl ?_
          refine LR.v (Y.extract rfl rfl rfl) (Wd.u rfl) rfl rfl ?_
          refine LR.v (Y.extract rfl rfl rfl) (Wd.u rfl) rfl rfl ?_
          refine LR.v (Y.assign rfl rfl) (Wd.u rfl) rfl rfl ?_
          refine LR.v (Y.assign rfl rfl) (Wd.u rfl) rfl rfl ?_
          refine LR.nil ?_
          refine hK12 _ _ ?_
          refine CW.seq (fun K13 hK13 hE13 => ?_)
          refine CW.seq (fun K14 hK14 hE14 => ?_)
          refine CW.region ?_
          refine LR.v (Y.move rfl rfl) (Wd.u rfl) rfl rfl ?_
          refine LR.v (Y.eql rfl rfl rfl) (Wd.u rfl) rfl rfl ?_
          refine LR.v (Y.move rfl rfl) (Wd.u rfl) rfl rfl ?_
          refine LR.splitp (d := 35) rfl (fun g35 => ?_) (fun g35 => ?_)
          ·
            refine LR.v (Y.move rfl rfl) (Wd.g rfl rfl rfl) rfl rfl ?_
            refine LR.v (Y.move rfl rfl) (Wd.g rfl rfl rfl) rfl rfl ?_
            refine LR.v (Y.sneq rfl rfl rfl) (Wd.g rfl rfl rfl) rfl rfl ?_
            refine LR.v (Y.pick_t rfl rfl rfl) (Wd.u rfl) rfl rfl ?_
            refine LR.nil ?_
            refine hK14 _ _ ?_
            refine CW.condp rfl (fun c39 => ?_) (fun c39 => ?_)
            ·
              have hlk : D1.look p = 0 := by omega
              obtain ⟨hnm, i, hnow⟩ := look_0 hlk
              have hil := hf.ids.1 p i hnow
              refine CW.region ?_
              refine LR.v (Y.move rfl rfl) (Wd.u rfl) rfl rfl ?_
              refine LR.v (Y.move rfl rfl) (Wd.u rfl) rfl rfl ?_
              -- call selvage/simfs.Dir
              refine LR.call rfl Tryd.call52 rfl (Wd.u rfl) rfl rfl (dir_ct mx_ p w0 _ mx (bf_mx.mono (by omega)) hl) (fun v42 H42 r42 => ?_)
              obtain ⟨rfl, hs42⟩ := r42
              replace hf := hf.nw hs42
              replace mx := mx.nw hs42
              replace hm0 := hm0.trN hs42
              have hz7 := hs42.size
              refine LR.v (Y.move rfl rfl) (Wd.u rfl) rfl rfl ?_
              refine LR.v (Y.move rfl rfl) (Wd.u rfl) rfl rfl ?_
              refine LR.v (Y.move rfl rfl) (Wd.u rfl) rfl rfl ?_
              refine LR.v (Y.cast (v2 := .agg (fC g1.fb ⟨p, q, some i⟩).toArray) (Y.build (v := .agg #[Str p, Str q, .pointer (fpt g1.fb (if D1.look p = 0 then mget D1.now p else none))]) rfl rfl (by intro w; kernel_rfl)) (by rw [if_pos hlk, hnow])) (Wd.u rfl) rfl rfl ?_
              -- call (*selvage/simfs.FS).change
              refine LR.call rfl Tryd.call69 rfl (Wd.u rfl) rfl rfl (change_ct K g1 b D1 (dirP p) ⟨p, q, some i⟩ w0 _ hf (by rw [hg1.2.2.2]; omega) (by simp [Chg.dir, name_ne hnm]) (fun j hj => by cases hj; exact ⟨hdq.symm, hil⟩) (fun h => rfl) (by have := hB1.lg; omega)) (fun v47 H47 r47 => ?_)
              have ql1 := hf.bk
              obtain ⟨K47, g47, rfl, hf, hkd47, hg47, hs47⟩ := r47
              have df2 := DFL.appK (dmx) (bf_mx.mono hm0.size) hkd47
              have nx3 : NxK K H0.size K47 := NxK.tr (nx_hm0_hf) hkd47 hm0.size
              replace mx := mx.upL hs47 (dmx)
              replace hm0 := hm0.trL hs47 (MIL.ofK (nx_hm0_hf) (by intro k hk; simp [hk]))
              have hz8 := hs47.size
              have hbk_hf := hf.bk
              refine LR.nil ?_
              refine hK13 _ _ ?_
              refine CW.seq (fun K15 hK15 hE15 => ?_)
              refine CW.region ?_
              refine LR.v (Y.move rfl rfl) (Wd.u rfl) rfl rfl ?_
              refine LR.v (Y.assign rfl rfl) (Wd.u rfl) rfl rfl ?_
              refine LR.nil ?_
              refine hK15 _ _ ?_
              refine CW.ret (hret .ret (.inr rfl) _ _ _ (res1 rfl rfl) ?_)
              exact ⟨_, _, by rw [hlay, hrl]; rfl, by rw [hlay, hrl]; rw [if_pos ⟨hlk, by simpa using c39⟩, hnow]; exact hf, nx3, hm0⟩
            ·
              refine CW.skip ?_
              refine hK13 _ _ ?_
              refine CW.seq (fun K16 hK16 hE16 => ?_)
              refine CW.region ?_
              refine LR.v (Y.move rfl rfl) (Wd.u rfl) rfl rfl ?_
              refine LR.v (Y.assign rfl rfl) (Wd.u rfl) rfl rfl ?_
              refine LR.nil ?_
              refine hK16 _ _ ?_
              refine CW.ret (hret .ret (.inr rfl) _ _ _ (res1 rfl rfl) ?_)
              exact ⟨_, _, by rw [hlay, hrl]; rfl, by rw [hlay, hrl]; rw [if_neg (fun h => by first | exact g35 (by omega) | exact h.2 (by simpa using c39))]; exact hf, nx_hm0_hf, hm0⟩
          ·
            refine LR.gs rfl rfl rfl rfl rfl rfl ?_
            refine LR.gs rfl rfl rfl rfl rfl rfl ?_
            refine LR.gs rfl rfl rfl rfl rfl rfl ?_
            refine LR.v (Y.pick_f rfl rfl rfl) (Wd.u rfl) rfl rfl ?_
            refine LR.nil ?_
            refine hK14 _ _ ?_
            refine CW.cond_f rfl ?_
            refine CW.skip ?_
            refine hK13 _ _ ?_
            refine CW.seq (fun K17 hK17 hE17 => ?_)
            refine CW.region ?_
            refine LR.v (Y.move rfl rfl) (Wd.u rfl) rfl rfl ?_
            refine LR.v (Y.assign rfl rfl) (Wd.u rfl) rfl rfl ?_
            refine LR.nil ?_
            refine hK17 _ _ ?_
            refine CW.ret (hret .ret (.inr rfl) _ _ _ (res1 rfl rfl) ?_)
            exact ⟨_, _, by rw [hlay, hrl]; rfl, by rw [hlay, hrl]; rw [if_neg (fun h => by first | exact g35 (by omega) | exact h.2 (by simpa using c39))]; exact hf, nx_hm0_hf, hm0⟩

set_option maxHeartbeats 2000000 in
theorem syncDir_ct (mx_ : Int) (K : List Nat) (g : Gh) (b : Nat) (D : Dk) (p : Pth) (w0 : World) (H0 : Heap)
    (hf : PDk K g H0 b D) (mx : MX mx_ H0) (bf_mx : BF (fun b => b = 0) H0.size) (dmx : DFL (fun b => b = 0) K) (hl : p.length ≤ 4294967280) (hB : Bd 274877906944 D) :
    Ct Tryd.prog w0 51 #[ptr b, Str p] H0 (fun r H2 => ∃ K2 : List Nat, ∃ g2 : Gh, r = .int .i64 ((D.syncDir p).1 : Int) ∧ (PDk K2 g2 H2 b (D.syncDir p).2) ∧ (NxK K H0.size K2) ∧ Mo (Ms K) H0 H2) := by
  refine Ct.enter (args := [ptr b, Str p]) Tryd.func51 rfl rfl rfl ?_
  intro Q0 hret
  have hm0 : Mo (Ms K) H0 H0 := Mo.refl _ _
  have nx_hm0_hf := NxK.refl K H0.size
  have hbk_hf := hf.bk
  have hop0 := hB.op
  have hdm0 := hf.dml
  obtain ⟨D1, hD1⟩ : ∃ D1, D1 = D.begin.2 := ⟨_, rfl⟩
  have hB1 := hB.begin
  rw [← hD1] at hB1
  refine CW.seq (fun K1 hK1 hE1 => ?_)
  refine CW.region ?_
  refine LR.v (Y.assign rfl rfl) (Wd.u rfl) rfl rfl ?_
  refine LR.nil ?_
  refine hK1 _ _ ?_
  refine CW.seq (fun K2 hK2 hE2 => ?_)
  refine CW.seq (fun K3 hK3 hE3 => ?_)
  refine CW.region ?_
  refine LR.v (Y.move rfl rfl) (Wd.u rfl) rfl rfl ?_
  -- call (*selvage/simfs.FS).begin
  refine LR.call rfl Tryd.call53 rfl (Wd.u rfl) rfl rfl (begin_ct K g b D w0 _ hf (by omega)) (fun v7 H7 r7 => ?_)
  obtain ⟨g1, rfl, hf, hg1, hs7⟩ := r7
  replace mx := mx.upL hs7 (dmx)
  replace hm0 := hm0.trL hs7 (MIL.ofK (nx_hm0_hf) (by intro k hk; simp [hk]))
  have hz1 := hs7.size
  rw [← hD1] at hf
  refine LR.v (Y.not rfl rfl) (Wd.u rfl) rfl rfl ?_
  refine LR.nil ?_
  refine hK3 _ _ ?_
  refine CW.cond rfl (fun c8 => ?_) (fun c8 => ?_)
  ·
    refine CW.seq (fun K4 hK4 hE4 => ?_)
    refine CW.region ?_
    refine LR.v (Y.assign rfl rfl) (Wd.u rfl) rfl rfl ?_
    refine LR.nil ?_
    refine hK4 _ _ ?_
    refine CW.ret (hE2 .ret nofun _ _ (hret .ret (.inr rfl) _ _ _ (res1 rfl rfl) ?_))
    have hdd := sd_dead (p := p) (show D.begin.1 = false by simpa using c8)
    exact ⟨_, _, by rw [hdd]; rfl, by rw [hdd]; rw [hD1] at hf; exact hf, nx_hm0_hf, hm0⟩
  ·
    have hgo : D.begin.1 = true := by simpa using c8
    have hops := (begin_true hgo).1
    rw [← hD1] at hops
    have hlay := sd_go (p := p) hgo
    rw [← hD1] at hlay
    refine CW.skip ?_
    refine hK2 _ _ ?_
    refine CW.seq (fun K5 hK5 hE5 => ?_)
    refine CW.seq (fun K6 hK6 hE6 => ?_)
    refine CW.region ?_
    refine LR.v (Y.move rfl rfl) (Wd.u rfl) rfl rfl ?_
    refine LR.v (Y.sneq rfl rfl rfl) (Wd.u rfl) rfl rfl ?_
    refine LR.v (Y.move rfl rfl) (Wd.u rfl) rfl rfl ?_
    refine LR.splitp (d := 11) rfl (fun g11 => ?_) (fun g11 => ?_)
    ·
      refine LR.v (Y.move rfl rfl) (Wd.g rfl rfl rfl) rfl rfl ?_
      -- call selvage/simfs.Name
      refine LR.call rfl Tryd.call27 rfl (Wd.g rfl rfl rfl) rfl rfl (name_ct mx_ p w0 _ mx (bf_mx.mono (by omega)) hl) (fun v13 H13 r13 => ?_)
      obtain ⟨rfl, hs13⟩ := r13
      replace hf := hf.nw hs13
      replace mx := mx.nw hs13
      replace hm0 := hm0.trN hs13
      have hz2 := hs13.size
      refine LR.v (Y.not rfl rfl) (Wd.g rfl rfl rfl) rfl rfl ?_
      refine LR.v (Y.pick_t rfl rfl rfl) (Wd.u rfl) rfl rfl ?_
      refine LR.nil ?_
      refine hK6 _ _ ?_
      refine CW.cond rfl (fun c15 => ?_) (fun c15 => ?_)
      ·
        refine CW.seq (fun K7 hK7 hE7 => ?_)
        refine CW.region ?_
        refine LR.v (Y.assign rfl rfl) (Wd.u rfl) rfl rfl ?_
        refine LR.nil ?_
        refine hK7 _ _ ?_
        refine CW.ret (hE5 .ret nofun _ _ (hret .ret (.inr rfl) _ _ _ (res1 rfl rfl) ?_))
        have hE : dirE p = 7 := by unfold dirE; rw [if_pos ⟨g11, by simpa using c15⟩]
        exact ⟨_, _, by rw [hlay, hE]; rfl, by rw [hlay, hE]; exact hf, nx_hm0_hf, hm0⟩
      ·
        refine CW.skip ?_
        refine hK5 _ _ ?_
        refine CW.seq (fun K8 hK8 hE8 => ?_)
        refine CW.region ?_
        refine LR.v (Y.move rfl rfl) (Wd.u rfl) rfl rfl ?_
        refine LR.v (Y.move rfl rfl) (Wd.u rfl) rfl rfl ?_
        -- call (*selvage/simfs.FS).dir
        refine LR.call rfl Tryd.call70 rfl (Wd.u rfl) rfl rfl (mkdir_ct K g1 b D1 p w0 _ hf (by rw [hg1.2.2.2]; omega)) (fun v18 H18 r18 => ?_)
        have ql1 := hf.bk
        obtain ⟨K18, g18, db, rfl, hf, hkd18, hdb, hg18, hs18⟩ := r18
        have df2 := DFL.appK (dmx) (bf_mx.mono hm0.size) hkd18
        have nx3 : NxK K H0.size K18 := NxK.tr (nx_hm0_hf) hkd18 hm0.size
        replace mx := mx.upL hs18 (dmx)
        replace hm0 := hm0.trL hs18 (MIL.ofK (nx_hm0_hf) (by intro k hk; simp [hk]))
        have hz3 := hs18.size
        have hbk_hf := hf.bk
        refine LR.v (Y.assign rfl rfl) (Wd.u rfl) rfl rfl ?_
        refine LR.nil ?_
        refine hK8 _ _ ?_
        refine CW.seq (fun K9 hK9 hE9 => ?_)
        obtain ⟨nbB, sbB, kcB, svB, nmB, smB, hdB⟩ := hf.dirs _ db hdb
        have hop : Mo (Ms [(db + 1)]) H18 H18 := Mo.refl _ _
        have km4 : KM K18 (db + 1) := (hf.km1 hdB.rd (by simp))
        have vd := hdB.vd
        have hlt_vd := vd.lt
        have df5 := DFL.at (df2) km4
        have nx6 : MI K H0.size (db + 1) := MIL.at (MIL.ofK (nx3) (by intro k hk; simp [hk])) km4
        have nx7 := Nx.refl (db + 1) H18.size
        refine CW.region ?_
        refine LR.v (Y.move rfl rfl) (Wd.u rfl) rfl rfl ?_
        refine LR.v (Y.move rfl rfl) (Wd.u rfl) rfl rfl ?_
        refine LR.v (Y.move rfl rfl) (Wd.u rfl) rfl rfl ?_
        refine LR.v (Y.nilCheck rfl rfl) (Wd.u rfl) rfl rfl ?_
        refine LR.v (Y.fieldAddr vd.pt rfl Tryd.runUnderlying101 rfl rfl Tryd.sizeOf98 (by decide) rfl) (Wd.u rfl) rfl rfl ?_
        refine LR.v (Y.fieldAddr vd.pt rfl Tryd.runUnderlying98 rfl rfl Tryd.sizeOf96 (by decide) rfl) (Wd.u rfl) rfl rfl ?_
        refine LR.v (Y.load1 vd.pt rfl Tryd.isAgg96 rfl) (Wd.u rfl) rfl rfl ?_
        -- call maps.Clone[selvage/simfs.names,string,*selvage/simfs.file]
        refine LR.call rfl Tryd.call71 rfl (Wd.u rfl) rfl rfl (mclone_ct nbB nmB w0 _ hdB.hn) (fun v26 H26 r26 => ?_)
        obtain ⟨b26, rfl, hm26, hk26, hs26⟩ := r26
        have df8 := DF.app (DF.z) (bf_mx.mono hm0.size) hk26
        have dj9 : Dj (db + 1) (b26 + 1) := Dj.app (Dj.z) vd.lt hk26
        have nx10 : Nx 0 H0.size (b26 + 1) := Nx.tr (Nx.refl 0 _) hk26 hm0.size
        have nx11 : Nx 0 H18.size (b26 + 1) := Nx.tr (Nx.refl 0 _) hk26 hop.size
        replace mx := mx.nw hs26
        replace vd := vd.nw hs26
        replace hm0 := hm0.trN hs26
        replace hop := hop.trN hs26
        have hz4 := hs26.size
        have hle_hm26 := hm26.le
        refine LR.v (Y.nilCheck rfl rfl) (Wd.u rfl) rfl rfl ?_
        refine LR.v (Y.fieldAddr vd.pt rfl Tryd.runUnderlying101 rfl rfl Tryd.sizeOf98 (by decide) rfl) (Wd.u rfl) rfl rfl ?_
        refine LR.v (Y.fieldAddr vd.pt rfl Tryd.runUnderlying98 rfl rfl Tryd.sizeOf96 (by decide) rfl) (Wd.u rfl) rfl rfl ?_
        refine LR.s (S.var1 vd 1 ([.map (some nbB), .map (some b26), svB.v]) rfl rfl rfl (rfl) Tryd.sizeOf96 (by simp) (rfl)) (Wd.u rfl) rfl (fun H6_11 r6_11 => ?_)
        obtain ⟨vd, hs6_11⟩ := r6_11
        replace hs6_11 := hs6_11.md1
        replace mx := mx.upL hs6_11 (DFL.cons df5 DFL.nil)
        replace hm26 := hm26.upL hs6_11 (DL.cons dj9.symm DL.nil)
        replace hm0 := hm0.trL hs6_11 (MIL.cons (nx6) MIL.nil)
        replace hop := hop.trL hs6_11 (MIL.cons (MI.app (MI.root (by simp)) (nx7) (Nat.le_refl _)) MIL.nil)
        have hz5 := hs6_11.size
        refine LR.v (Y.nilCheck rfl rfl) (Wd.u rfl) rfl rfl ?_
        refine LR.v (Y.fieldAddr vd.pt rfl Tryd.runUnderlying101 rfl rfl Tryd.sizeOf99 (by decide) rfl) (Wd.u rfl) rfl rfl ?_
        refine LR.s (S.var1 vd 2 ([.map (some nbB), .map (some b26), .slice none 0 0]) rfl rfl rfl (rfl) Tryd.sizeOf99 (by simp) (rfl)) (Wd.u rfl) rfl (fun H6_14 r6_14 => ?_)
        obtain ⟨vd, hs6_14⟩ := r6_14
        replace hs6_14 := hs6_14.md1
        replace mx := mx.upL hs6_14 (DFL.cons df5 DFL.nil)
        replace hm26 := hm26.upL hs6_14 (DL.cons dj9.symm DL.nil)
        replace hm0 := hm0.trL hs6_14 (MIL.cons (nx6) MIL.nil)
        replace hop := hop.trL hs6_14 (MIL.cons (MI.app (MI.root (by simp)) (nx7) (Nat.le_refl _)) MIL.nil)
        have hz6 := hs6_14.size
        refine LR.nil ?_
        have df12 : DFL _ ((b26 + 1) :: K18) := (DFL.cons (df8) (df2))
        have nx13 : NxK K H0.size ((b26 + 1) :: K18) := (NxK.cons (nx10) (nx3))
        replace hf := hf.dsync hB1.an hdb hdB hop vd hm26 (fun _ => rfl) (DL.nxK hf.bk (nx11))
        have hbk_hf := hf.bk
        refine hK9 _ _ ?_
        refine CW.seq (fun K10 hK10 hE10 => ?_)
        refine CW.region ?_
        refine LR.v (Y.assign rfl rfl) (Wd.u rfl) rfl rfl ?_
        refine LR.nil ?_
        refine hK10 _ _ ?_
        refine CW.ret (hret .ret (.inr rfl) _ _ _ (res1 rfl rfl) ?_)
        have hE : dirE p = 0 := by unfold dirE; rw [if_neg (fun h => by first | exact absurd h.1 g11 | (rw [h.2] at c15; cases c15))]
        exact ⟨_, _, by rw [hlay, hE]; rfl, by rw [hlay, hE]; exact hf, nx13, hm0⟩
    ·
      refine LR.gs rfl rfl rfl rfl rfl rfl ?_
      refine LR.gs rfl rfl rfl rfl rfl rfl ?_
      refine LR.gs rfl rfl rfl rfl rfl rfl ?_
      refine LR.v (Y.pick_f rfl rfl rfl) (Wd.u rfl) rfl rfl ?_
      refine LR.nil ?_
      refine hK6 _ _ ?_
      refine CW.cond_f rfl ?_
      refine CW.skip ?_
      refine hK5 _ _ ?_
      refine CW.seq (fun K11 hK11 hE11 => ?_)
      refine CW.region ?_
      refine LR.v (Y.move rfl rfl) (Wd.u rfl) rfl rfl ?_
      refine LR.v (Y.move rfl rfl) (Wd.u rfl) rfl rfl ?_
      -- call (*selvage/simfs.FS).dir
      refine LR.call rfl Tryd.call70 rfl (Wd.u rfl) rfl rfl (mkdir_ct K g1 b D1 p w0 _ hf (by rw [hg1.2.2.2]; omega)) (fun v18 H18 r18 => ?_)
      have ql14 := hf.bk
      obtain ⟨K18, g18, db, rfl, hf, hkd18, hdb, hg18, hs18⟩ := r18
      have df15 := DFL.appK (dmx) (bf_mx.mono hm0.size) hkd18
      have nx16 : NxK K H0.size K18 := NxK.tr (nx_hm0_hf) hkd18 hm0.size
      replace mx := mx.upL hs18 (dmx)
      replace hm0 := hm0.trL hs18 (MIL.ofK (nx_hm0_hf) (by intro k hk; simp [hk]))
      have hz7 := hs18.size
      have hbk_hf := hf.bk
      refine LR.v (Y.assign rfl rfl) (Wd.u rfl) rfl rfl ?_
      refine LR.nil ?_
      refine hK11 _ _ ?_
      refine CW.seq (fun K12 hK12 hE12 => ?_)
      obtain ⟨nbB, sbB, kcB, svB, nmB, smB, hdB⟩ := hf.dirs _ db hdb
      have hop : Mo (Ms [(db + 1)]) H18 H18 := Mo.refl _ _
      have km17 : KM K18 (db + 1) := (hf.km1 hdB.rd (by simp))
      have vd := hdB.vd
      have hlt_vd := vd.lt
      have df18 := DFL.at (df15) km17
      have nx19 : MI K H0.size (db + 1) := MIL.at (MIL.ofK (nx16) (by intro k hk; simp [hk])) km17
      have nx20 := Nx.refl (db + 1) H18.size
      refine CW.region ?_
      refine LR.v (Y.move rfl rfl) (Wd.u rfl) rfl rfl ?_
      refine LR.v (Y.move rfl rfl) (Wd.u rfl) rfl rfl ?_
      refine LR.v (Y.move rfl rfl) (Wd.u rfl) rfl rfl ?_
      refine LR.v (Y.nilCheck rfl rfl) (Wd.u rfl) rfl rfl ?_
      refine LR.v (Y.fieldAddr vd.pt rfl Tryd.runUnderlying101 rfl rfl Tryd.sizeOf98 (by decide) rfl) (Wd.u rfl) rfl rfl ?_
      refine LR.v (Y.fieldAddr vd.pt rfl Tryd.runUnderlying98 rfl rfl Tryd.sizeOf96 (by decide) rfl) (Wd.u rfl) rfl rfl ?_
      refine LR.v (Y.load1 vd.pt rfl Tryd.isAgg96 rfl) (Wd.u rfl) rfl rfl ?_
      -- call maps.Clone[selvage/simfs.names,string,*selvage/simfs.file]
      refine LR.call rfl Tryd.call71 rfl (Wd.u rfl) rfl rfl (mclone_ct nbB nmB w0 _ hdB.hn) (fun v26 H26 r26 => ?_)
      obtain ⟨b26, rfl, hm26, hk26, hs26⟩ := r26
      have df21 := DF.app (DF.z) (bf_mx.mono hm0.size) hk26
      have dj22 : Dj (db + 1) (b26 + 1) := Dj.app (Dj.z) vd.lt hk26
      have nx23 : Nx 0 H0.size (b26 + 1) := Nx.tr (Nx.refl 0 _) hk26 hm0.size
      have nx24 : Nx 0 H18.size (b26 + 1) := Nx.tr (Nx.refl 0 _) hk26 hop.size
      replace mx := mx.nw hs26
      replace vd := vd.nw hs26
      replace hm0 := hm0.trN hs26
      replace hop := hop.trN hs26
      have hz8 := hs26.size
      have hle_hm26 := hm26.le
      refine LR.v (Y.nilCheck rfl rfl) (Wd.u rfl) rfl rfl ?_
      refine LR.v (Y.fieldAddr vd.pt rfl Tryd.runUnderlying101 rfl rfl Tryd.sizeOf98 (by decide) rfl) (Wd.u rfl) rfl rfl ?_
      refine LR.v (Y.fieldAddr vd.pt rfl Tryd.runUnderlying98 rfl rfl Tryd.sizeOf96 (by decide) rfl) (Wd.u rfl) rfl rfl ?_
      refine LR.s (S.var1 vd 1 ([.map (some nbB), .map (some b26), svB.v]) rfl rfl rfl (rfl) Tryd.sizeOf96 (by simp) (rfl)) (Wd.u rfl) rfl (fun H6_11 r6_11 => ?_)
      obtain ⟨vd, hs6_11⟩ := r6_11
      replace hs6_11 := hs6_11.md1
      replace mx := mx.upL hs6_11 (DFL.cons df18 DFL.nil)
      replace hm26 := hm26.upL hs6_11 (DL.cons dj22.symm DL.nil)
      replace hm0 := hm0.trL hs6_11 (MIL.cons (nx19) MIL.nil)
      replace hop := hop.trL hs6_11 (MIL.cons (MI.app (MI.root (by simp)) (nx20) (Nat.le_refl _)) MIL.nil)
      have hz9 := hs6_11.size
      refine LR.v (Y.nilCheck rfl rfl) (Wd.u rfl) rfl rfl ?_
      refine LR.v (Y.fieldAddr vd.pt rfl Tryd.runUnderlying101 rfl rfl Tryd.sizeOf99 (by decide) rfl) (Wd.u rfl) rfl rfl ?_
      refine LR.s (S.var1 vd 2 ([.map (some nbB), .map (some b26), .slice none 0 0]) rfl rfl rfl (rfl) Tryd.sizeOf99 (by simp) (rfl)) (Wd.u rfl) rfl (fun H6_14 r6_14 => ?_)
      obtain ⟨vd, hs6_14⟩ := r6_14
      replace hs6_14 := hs6_14.md1
      replace mx := mx.upL hs6_14 (DFL.cons df18 DFL.nil)
      replace hm26 := hm26.upL hs6_14 (DL.cons dj22.symm DL.nil)
      replace hm0 := hm0.trL hs6_14 (MIL.cons (nx19) MIL.nil)
      replace hop := hop.trL hs6_14 (MIL.cons (MI.app (MI.root (by simp)) (nx20) (Nat.le_refl _)) MIL.nil)
      have hz10 := hs6_14.size
      refine LR.nil ?_
      have df25 : DFL _ ((b26 + 1) :: K18) := (DFL.cons (df21) (df15))
      have nx26 : NxK K H0.size ((b26 + 1) :: K18) := (NxK.cons (nx23) (nx16))
      replace hf := hf.dsync hB1.an hdb hdB hop vd hm26 (fun _ => rfl) (DL.nxK hf.bk (nx24))
      have hbk_hf := hf.bk
      refine hK12 _ _ ?_
      refine CW.seq (fun K13 hK13 hE13 => ?_)
      refine CW.region ?_
      refine LR.v (Y.assign rfl rfl) (Wd.u rfl) rfl rfl ?_
      refine LR.nil ?_
      refine hK13 _ _ ?_
      refine CW.ret (hret .ret (.inr rfl) _ _ _ (res1 rfl rfl) ?_)
      have hE : dirE p = 0 := by unfold dirE; rw [if_neg (fun h => by first | exact absurd h.1 g11 | (rw [h.2] at c15; cases c15))]
      exact ⟨_, _, by rw [hlay, hE]; rfl, by rw [hlay, hE]; exact hf, nx26, hm0⟩

end Go.Proofs.YtdliddjkacbggaaDoor.SimI
/-
  The keys of a map, collected into a row of one's own, and sorted.
-/
namespace Go.Proofs.YtdliddjkacbggaaDoor.SimK
open Go.Proofs.YtdliddjkacbggaaDoor.E Go.RowKit Go.Proofs.YtdliddjkacbggaaDoor.SimA Go.Proofs.YtdliddjkacbggaaDoor.SimB Go.Proofs.YtdliddjkacbggaaDoor.SimC Go.Proofs.YtdliddjkacbggaaDoor.SimD Go.Proofs.YtdliddjkacbggaaDoor.SimE Go.Proofs.YtdliddjkacbggaaDoor.SimF Go.Proofs.YtdliddjkacbggaaDoor.SimG Go.Proofs.YtdliddjkacbggaaDoor.SimH Go.Proofs.YtdliddjkacbggaaDoor.SimI
set_option maxRecDepth 20000
set_option linter.unusedVariables false
set_option linter.unusedSimpArgs false
set_option linter.unusedSectionVars false



/-- the loop's record -/
theorem Fr.start {n : Nat} {args : List Value} (hk : args.length ≤ n) : Fr n (argL args 0) { tmps := args.toArray ++ Array.replicate (n - args.toArray.size) undef, defers := [] } := by
  refine ⟨rfl, ?_, ?_⟩
  · simp; omega
  · intro t v e
    obtain ⟨_, h2⟩ := argL_get args 0 t v e
    simp only [Nat.sub_zero] at h2
    simp only
    have hlt := (List.getElem?_eq_some_iff.1 h2).1
    rw [Array.getElem?_append_left (by simpa using hlt)]
    simpa using h2
theorem LRD.v {P : Program} {w0 : World} {Q : Exit → Act → World → Prop} {n : Nat} {l : FL} {H : Heap} {ops : Array Oper} {rest : List Oper} {o : Oper} {ds : List Deferred} {v : Value} {d : Nat} (hy : Y P w0 n l H o v) (hnd : ∀ c, o.op ≠ .defer c) (hw : Wd ops l o) (hd : o.dst = some d) (hn : Nat.blt d n = true)
    (h : ∀ a w, Fr n ((d, v) :: l) a → At w0 H w → wpListIn (FW none) 0 P ops Q rest { a with defers := ds } w) : ∀ a w, Fr n l a → At w0 H w → wpListIn (FW none) 0 P ops Q (o :: rest) { a with defers := ds } w := by
  intro a w hf ha
  have hp := hf.put hn v
  rw [← hd] at hp
  unfold wpListIn
  rw [if_pos (hw n a hf)]
  refine ⟨fun _ _ => trivial, ?_⟩
  rw [Oper.semAt_eq _ _ _ hnd]
  show Oper.uponIn _ _ _ _ _ _ _ ((execOp a.eval o).run P w)
  rw [hy a w hf ha, Oper.uponIn_value]
  have h2 := h _ w hp ha
  have e : ({ a with defers := ds } : Act).put o.dst v = { (a.put o.dst v) with defers := ds } := by rw [hd]; rfl
  rw [e]; exact h2



end Go.Proofs.YtdliddjkacbggaaDoor.SimK
/-
  The disk: a crash, as plain data.
-/
namespace Go.Proofs.YtdliddjkacbggaaDoor.SimN
open Go.Proofs.YtdliddjkacbggaaDoor.E Go.RowKit Go.Proofs.YtdliddjkacbggaaDoor.SimA Go.Proofs.YtdliddjkacbggaaDoor.SimB Go.Proofs.YtdliddjkacbggaaDoor.SimC Go.Proofs.YtdliddjkacbggaaDoor.SimD Go.Proofs.YtdliddjkacbggaaDoor.SimE Go.Proofs.YtdliddjkacbggaaDoor.SimF Go.Proofs.YtdliddjkacbggaaDoor.SimG Go.Proofs.YtdliddjkacbggaaDoor.SimH Go.Proofs.YtdliddjkacbggaaDoor.SimI Go.Proofs.YtdliddjkacbggaaDoor.SimK
set_option maxRecDepth 20000
set_option linter.unusedVariables false
set_option linter.unusedSimpArgs false
set_option linter.unusedSectionVars false

theorem at_out {c : Chg} {n q : Pth} {o : Option Nat} (hcn : ∀ i, c.f = some i → dirP c.n = n) (hcg : c.g ≠ [] → dirP c.g = n) (hq : dirP q ≠ n) : c.at q o = o := by
  unfold Chg.at
  cases hcf : c.f with
  | none =>
    simp only
    rw [if_neg (fun e => hq (by rw [e.2]; exact hcg e.1))]
  | some i =>
    simp only
    rw [if_neg (fun e => hq (by rw [e]; exact hcn i hcf)), if_neg (fun e => hq (by rw [e.2]; exact hcg e.1))]
theorem dir_g {c : Chg} (h : c.g ≠ []) : dirP c.g = c.dir := by unfold Chg.dir; rw [if_neg h]
theorem apl_out {n q : Pth} (hq : dirP q ≠ n) : ∀ (cs : List Chg) (l : Nms), (∀ c ∈ cs, c.dir = n ∧ ∀ i, c.f = some i → dirP c.n = c.dir) → mget (apl cs l) q = mget l q
  | [], l, _ => rfl
  | c :: cs, l, h => by
    have h1 := h c List.mem_cons_self
    show mget (apl cs (c.ap l)) q = _
    rw [apl_out hq cs _ (fun d hd => h d (List.mem_cons_of_mem _ hd)), mget_ap]
    exact at_out (fun i hi => by rw [h1.2 i hi]; exact h1.1) (fun hg => by rw [dir_g hg]; exact h1.1) hq
theorem crashD_st {picks : List Int} {D : Dk} {s : Nms × Nat} {n : Pth} : (crashD picks D s n).1 = apl ((D.chgs n).take (pickN picks s.2 ((D.chgs n).length + 1))) s.1 := by
  unfold crashD
  split
  · rename_i h; rw [h, List.take_nil]; rfl
  · rfl
theorem chgs_mem {D : Dk} {n : Pth} {c : Chg} (h : c ∈ D.chgs n) : c ∈ D.log ∧ c.dir = n := by
  unfold Dk.chgs at h
  rw [List.mem_filter] at h
  exact ⟨h.1, by simpa using h.2⟩
/-- a disk of which some directories have crashed -/
structure Mid (picks : List Int) (D Di : Dk) (L : List Pth) : Prop where
  same : Di.cap = D.cap ∧ Di.most = D.most ∧ Di.fs = D.fs ∧ Di.ops = D.ops ∧ Di.left = D.left ∧ Di.dead = D.dead
  st : Di.stays = (L.foldl (crashD picks D) (D.stays, 0)).1
  an : Asc Di.now
  ast : Asc Di.stays
  nw1 : ∀ q, dirP q ∈ L → mget Di.now q = mget Di.stays q
  nw2 : ∀ q, dirP q ∉ L → mget Di.now q = mget D.now q
  ch : ∀ n, Di.chgs n = if n ∈ L then [] else D.chgs n
  lg : ∀ c ∈ Di.log, c ∈ D.log
theorem Mid.start {picks : List Int} {D : Dk} (h1 : Asc D.now) (h2 : Asc D.stays) : Mid picks D D [] :=
  ⟨⟨rfl, rfl, rfl, rfl, rfl, rfl⟩, rfl, h1, h2, fun q h => (by cases h), fun q _ => rfl, fun n => by simp, fun c h => h⟩
/-- one more -/
def stepM (picks : List Int) (Di : Dk) (at_ : Nat) (n : Pth) : Dk :=
  { Di with stays := (crashD picks Di (Di.stays, at_) n).1, now := merge (crashD picks Di (Di.stays, at_) n).1 Di.now n, log := Di.log.filter (fun c => !decide (c.dir = n)) }
theorem crashD_chg {picks : List Int} {D Di : Dk} {s : Nms × Nat} {n : Pth} (h : Di.chgs n = D.chgs n) : crashD picks Di s n = crashD picks D s n := by unfold crashD; rw [h]
theorem Mid.step {picks : List Int} {D Di : Dk} {L : List Pth} {n : Pth} (h : Mid picks D Di L) (hn : n ∉ L) (hld : ∀ c ∈ D.log, ∀ i, c.f = some i → dirP c.n = c.dir) :
    Mid picks D (stepM picks Di (L.foldl (crashD picks D) (D.stays, 0)).2 n) (L ++ [n]) ∧ (crashD picks Di (Di.stays, (L.foldl (crashD picks D) (D.stays, 0)).2) n).2 = ((L ++ [n]).foldl (crashD picks D) (D.stays, 0)).2 := by
  have hch : Di.chgs n = D.chgs n := by rw [h.ch, if_neg hn]
  have hs : (Di.stays, (L.foldl (crashD picks D) (D.stays, 0)).2) = L.foldl (crashD picks D) (D.stays, 0) := by rw [h.st]
  have hcr : crashD picks Di (Di.stays, (L.foldl (crashD picks D) (D.stays, 0)).2) n = (L ++ [n]).foldl (crashD picks D) (D.stays, 0) := by
    rw [crashD_chg hch, hs, List.foldl_append]; rfl
  have hall : ∀ c ∈ (Di.chgs n).take (pickN picks (L.foldl (crashD picks D) (D.stays, 0)).2 ((Di.chgs n).length + 1)), c.dir = n ∧ ∀ i, c.f = some i → dirP c.n = c.dir := fun c hc => by
    have := chgs_mem (List.mem_of_mem_take hc)
    exact ⟨this.2, hld c (h.lg c this.1)⟩
  have hAst : Asc (crashD picks Di (Di.stays, (L.foldl (crashD picks D) (D.stays, 0)).2) n).1 := by rw [crashD_st]; exact asc_apl h.ast _
  have hout : ∀ q, dirP q ≠ n → mget (crashD picks Di (Di.stays, (L.foldl (crashD picks D) (D.stays, 0)).2) n).1 q = mget Di.stays q := fun q hq => by
    rw [crashD_st]; exact apl_out hq _ _ hall
  refine ⟨⟨h.same, ?_, asc_merge h.an n, hAst, fun q hq => ?_, fun q hq => ?_, fun m => ?_, fun c hc => h.lg c (List.mem_filter.1 hc).1⟩, by rw [hcr]⟩
  · show (crashD picks Di _ n).1 = _; rw [hcr]
  · show mget (merge _ Di.now n) q = mget (crashD picks Di _ n).1 q
    rw [mget_merge hAst]
    by_cases e : dirP q = n
    · rw [if_pos e]
    · rw [if_neg e, hout q e]
      refine h.nw1 q ?_
      rcases List.mem_append.1 hq with h1 | h1
      · exact h1
      · exact absurd (List.mem_singleton.1 h1) e
  · show mget (merge _ Di.now n) q = _
    have e : dirP q ≠ n := fun e => hq (by rw [e]; simp)
    rw [mget_merge hAst, if_neg e]
    exact h.nw2 q (fun h1 => hq (List.mem_append_left _ h1))
  · show (Di.log.filter _).filter _ = _
    by_cases e : m = n
    · subst e
      rw [if_pos (by simp), List.filter_filter, List.filter_eq_nil_iff]
      intro c _; simp
    · have e2 : (Di.log.filter (fun c => !decide (c.dir = n))).filter (fun c => decide (c.dir = m)) = Di.chgs m := by
        unfold Dk.chgs
        rw [List.filter_filter]
        refine List.filter_congr (fun c _ => ?_)
        by_cases e3 : c.dir = m
        · simp [e3, e]
        · simp [e3]
      rw [e2, h.ch]
      simp [e]
section
variable {ρ ρ' : Nat → Role} {fb : List Nat} {H H' : Heap} {D D' : Dk} {p : Pth} {db nb sb k i b : Nat} {sv nv wv : SV} {nm sm : Nms} {S : Nat → Prop} {K K' : List Nat} {g : Gh}
end
section
variable {w0 : World} {n : Nat} {l : FL} {H : Heap} {o : Oper} {K : List Nat} {g : Gh} {b lv : Nat} {D : Dk} {x y : Operand} {t : TypeId}
end
theorem crashF_len (picks : List Int) : ∀ (L : Nms) (s : List Fdt × Nat), (L.foldl (crashF picks) s).1.length = s.1.length
  | [], s => rfl
  | x :: L, s => by
    rw [List.foldl_cons, crashF_len picks L]
    unfold crashF
    simp only
    split
    · rfl
    · simp
end Go.Proofs.YtdliddjkacbggaaDoor.SimN
/-
  The disk: how large it may grow, operation by operation: plain data.
-/
namespace Go.Proofs.YtdliddjkacbggaaDoor.SimQ
open Go.Proofs.YtdliddjkacbggaaDoor.E Go.RowKit Go.Proofs.YtdliddjkacbggaaDoor.SimA Go.Proofs.YtdliddjkacbggaaDoor.SimB Go.Proofs.YtdliddjkacbggaaDoor.SimC Go.Proofs.YtdliddjkacbggaaDoor.SimD Go.Proofs.YtdliddjkacbggaaDoor.SimE Go.Proofs.YtdliddjkacbggaaDoor.SimF Go.Proofs.YtdliddjkacbggaaDoor.SimG Go.Proofs.YtdliddjkacbggaaDoor.SimH Go.Proofs.YtdliddjkacbggaaDoor.SimI Go.Proofs.YtdliddjkacbggaaDoor.SimK Go.Proofs.YtdliddjkacbggaaDoor.SimN
set_option maxRecDepth 20000
set_option linter.unusedVariables false
set_option linter.unusedSimpArgs false
set_option linter.unusedSectionVars false

def Fsb (n : Nat) (x : Fdt) : Prop := x.now.length ≤ n ∧ x.stays.length ≤ n ∧ x.w.length ≤ n ∧ (∀ y ∈ x.w, y.d.length ≤ n) ∧ ∀ j, (onAll (x.w.take j) x.stays).length ≤ n
theorem Fsb.mono {n m : Nat} {x : Fdt} (h : Fsb n x) (hm : n ≤ m) : Fsb m x := ⟨Nat.le_trans h.1 hm, Nat.le_trans h.2.1 hm, Nat.le_trans h.2.2.1 hm, fun y hy => Nat.le_trans (h.2.2.2.1 y hy) hm, fun j => Nat.le_trans (h.2.2.2.2 j) hm⟩
theorem Fsb.nil (n : Nat) : Fsb n ⟨[], [], []⟩ := ⟨Nat.zero_le _, Nat.zero_le _, Nat.zero_le _, nofun, fun j => by simp [onAll]⟩
theorem Fsb.flat {n : Nat} {l : List UInt8} (h : l.length ≤ n) : Fsb n ⟨l, l, []⟩ := ⟨h, h, Nat.zero_le _, nofun, fun j => by simpa [onAll] using h⟩
/-- every name is one of these -/
def Inn (U : List Pth) (l : Nms) : Prop := ∀ q, (mget l q).isSome = true → q ∈ U
structure Bs (n : Nat) (D : Dk) : Prop where
  an : Asc D.now
  ast : Asc D.stays
  lg : D.log.length ≤ n
  op : D.ops ≤ n
  fl : D.fs.length ≤ n
  f : ∀ i, Fsb n (fget D.fs i)
  un : ∃ U : List Pth, U.length ≤ n ∧ Inn U D.now ∧ Inn U D.stays ∧ ∀ c ∈ D.log, ∀ i, c.f = some i → c.n ∈ U
  ld : ∀ c ∈ D.log, ∀ i, c.f = some i → dirP c.n = c.dir
theorem Bs.mono {n m : Nat} {D : Dk} (h : Bs n D) (hm : n ≤ m) : Bs m D := ⟨h.an, h.ast, Nat.le_trans h.lg hm, Nat.le_trans h.op hm, Nat.le_trans h.fl hm, fun i => (h.f i).mono hm, by obtain ⟨U, h1, h2⟩ := h.un; exact ⟨U, Nat.le_trans h1 hm, h2⟩, h.ld⟩
theorem usedL_le {fs : List Fdt} {n : Nat} (h : ∀ i, (fget fs i).now.length ≤ n) : ∀ l : Nms, usedL fs l ≤ l.length * n
  | [] => by simp [usedL]
  | x :: l => by
    have h1 := usedL_le h l
    have h2 := h x.2
    unfold usedL at h1 ⊢
    rw [List.map_cons, List.sum_cons, List.length_cons, Nat.add_mul]
    omega
theorem inn_len {U : List Pth} {l : Nms} (hA : Asc l) (h : Inn U l) : l.length ≤ U.length := by
  have := nodup_le hA.nodup (fun k hk => h k (isSome_iff_key.2 hk))
  rwa [List.length_map] at this
theorem Bs.bd {n : Nat} {D : Dk} (h : Bs n D) (hn : n ≤ 1073741824) : Bd 274877906944 D := by
  obtain ⟨U, h1, h2, h3, h4⟩ := h.un
  have e1 := inn_len h.an h2
  have e2 := inn_len h.ast h3
  have e3 := usedL_le (fun i => (h.f i).1) D.now
  have e4 : D.now.length * n ≤ 1073741824 * 1073741824 := Nat.mul_le_mul (by omega) hn
  exact ⟨h.an, h.ast, by unfold Dk.used; omega, by have := h.lg; omega, by have := h.op; omega, fun i => by have := (h.f i).1; omega, fun i => by have := (h.f i).2.1; omega, fun i => by have := (h.f i).2.2.1; omega, fun i y hy => by have := (h.f i).2.2.2.1 y hy; omega, by omega, by omega, by have := h.fl; omega, fun i j => by have := (h.f i).2.2.2.2 j; omega, h.ld⟩
theorem Bs.empty (cap most : Nat) : Bs 0 (Dk.empty cap most) :=
  ⟨List.Pairwise.nil, List.Pairwise.nil, Nat.le_refl _, Nat.le_refl _, Nat.le_refl _, fun i => by show Fsb 0 (List.getD [] i _); simpa using Fsb.nil 0, ⟨[], Nat.le_refl _, nofun, nofun, nofun⟩, nofun⟩
theorem Bs.begin {n : Nat} {D : Dk} (h : Bs n D) : Bs (n + 1) D.begin.2 := by
  obtain ⟨e1, e2, e3, e4, e5, e6, e7⟩ := begin_same D
  have h := h.mono (Nat.le_succ n)
  exact ⟨by rw [e4]; exact h.an, by rw [e5]; exact h.ast, by rw [e6]; exact h.lg, by have := Bs.op ‹Bs n D›; omega, by rw [e3]; exact h.fl, by rw [e3]; exact h.f, by rw [e4, e5, e6]; exact h.un, by rw [e6]; exact h.ld⟩
theorem inn_ap {U : List Pth} {l : Nms} {c : Chg} (h : Inn U l) (hc : ∀ i, c.f = some i → c.n ∈ U) : Inn U (c.ap l) := fun q hq => by
  rw [mget_ap] at hq
  unfold Chg.at at hq
  cases hf : c.f with
  | none =>
    rw [hf] at hq
    simp only at hq
    split at hq
    · cases hq
    · exact h q hq
  | some i =>
    rw [hf] at hq
    simp only at hq
    split at hq
    · rename_i e; rw [e]; exact hc i hf
    · split at hq
      · cases hq
      · exact h q hq
theorem inn_apl {U : List Pth} : ∀ {cs : List Chg} {l : Nms}, Inn U l → (∀ c ∈ cs, ∀ i, c.f = some i → c.n ∈ U) → Inn U (apl cs l)
  | [], l, h, _ => h
  | c :: cs, l, h, hc => inn_apl (cs := cs) (inn_ap h (hc c List.mem_cons_self)) (fun d hd => hc d (List.mem_cons_of_mem _ hd))
theorem Bs.put {n : Nat} {D : Dk} (h : Bs n D) (i : Nat) {x : Fdt} (hx : Fsb n x) : Bs n (D.putF i x) :=
  ⟨h.an, h.ast, h.lg, h.op, by rw [fl_put]; exact h.fl, fun j => by
    by_cases hi : i < D.fs.length
    · by_cases e : j = i
      · subst e; rw [fget_put hi]; exact hx
      · show Fsb n ((D.fs.set i x).getD j _)
        rw [List.getD_eq_getElem?_getD, List.getElem?_set_ne (Ne.symm e), ← List.getD_eq_getElem?_getD]; exact h.f j
    · show Fsb n ((D.fs.set i x).getD j _)
      rw [List.set_eq_of_length_le (by omega)]; exact h.f j, h.un, h.ld⟩
theorem Bs.change {n : Nat} {D : Dk} (h : Bs n D) (c : Chg) (hd : ∀ i, c.f = some i → dirP c.n = c.dir) : Bs (n + 1) (D.change c) := by
  obtain ⟨U, h1, h2, h3, h4⟩ := h.un
  refine ⟨asc_ap h.an c, h.ast, by show (D.log ++ [c]).length ≤ _; have := h.lg; simp; omega, Nat.le_succ_of_le h.op, Nat.le_succ_of_le h.fl, fun i => (h.f i).mono (Nat.le_succ _), ⟨c.n :: U, by simp; omega, inn_ap (fun q hq => List.mem_cons_of_mem _ (h2 q hq)) (fun _ _ => List.mem_cons_self), fun q hq => List.mem_cons_of_mem _ (h3 q hq), fun d hd2 i hi => ?_⟩, fun d hd2 i hi => ?_⟩
  · rcases List.mem_append.1 hd2 with hd2 | hd2
    · exact List.mem_cons_of_mem _ (h4 d hd2 i hi)
    · rw [List.mem_singleton.1 hd2]; exact List.mem_cons_self
  · rcases List.mem_append.1 hd2 with hd2 | hd2
    · exact h.ld d hd2 i hi
    · rw [List.mem_singleton.1 hd2] at hi ⊢; exact hd i hi
theorem Bs.addf {n : Nat} {D : Dk} (h : Bs n D) : Bs (n + 1) ({ D with fs := D.fs ++ [⟨[], [], []⟩] } : Dk) :=
  ⟨h.an, h.ast, Nat.le_succ_of_le h.lg, Nat.le_succ_of_le h.op, by have := h.fl; simp; omega, fun i => by
    show Fsb (n + 1) ((D.fs ++ [(⟨[], [], []⟩ : Fdt)]).getD i ⟨[], [], []⟩)
    rw [List.getD_eq_getElem?_getD, List.getElem?_append]
    split
    · rw [← List.getD_eq_getElem?_getD]; exact (h.f i).mono (Nat.le_succ _)
    · by_cases e : i - D.fs.length = 0
      · rw [e]; exact Fsb.nil _
      · rw [List.getElem?_eq_none (by simp; omega)]; exact Fsb.nil _, (h.mono (Nat.le_succ _)).un, h.ld⟩
theorem Bs.make {n : Nat} {D : Dk} (h : Bs n D) (p : Pth) : Bs (n + 2) (D.make p).1 := by
  unfold Dk.make
  split
  · exact h.mono (by omega)
  · refine h.addf.change _ (fun i _ => ?_)
    simp [Chg.dir]
theorem Fsb.laid {n : Nat} {x : Fdt} (h : Fsb n x) (w : Wr) : Fsb (n + w.d.length + 1) ⟨w.on x.now w.d.length, x.stays, x.w ++ [w]⟩ := by
  obtain ⟨h1, h2, h3, h4, h5⟩ := h
  have h6 := on_le w x.now w.d.length
  refine ⟨by show (w.on x.now w.d.length).length ≤ _; omega, by show x.stays.length ≤ _; omega, by show (x.w ++ [w]).length ≤ _; simp; omega, fun y hy => ?_, fun j => ?_⟩
  · rcases List.mem_append.1 hy with hy | hy
    · have := h4 y hy; omega
    · rw [List.mem_singleton.1 hy]; omega
  · show (onAll ((x.w ++ [w]).take j) x.stays).length ≤ _
    rw [List.take_append]
    by_cases hj : j ≤ x.w.length
    · rw [show j - x.w.length = 0 by omega, List.take_zero, List.append_nil]; have := h5 j; omega
    · obtain ⟨k, hk⟩ : ∃ k, j - x.w.length = k + 1 := ⟨j - x.w.length - 1, by omega⟩
      rw [hk]
      have e : onAll (x.w.take j ++ [w].take (k + 1)) x.stays = w.on (onAll (x.w.take j) x.stays) w.d.length := by
        unfold onAll; rw [List.foldl_append, List.take_succ_cons, List.take_nil]; rfl
      rw [e]
      have := on_le w (onAll (x.w.take j) x.stays) w.d.length
      have := h5 j
      omega
theorem Bs.write {n : Nat} {D : Dk} (h : Bs n D) (p : Pth) (w : Wr) : Bs (n + w.d.length + 3) (D.write p w) := by
  unfold Dk.write
  have h1 := h.make p
  exact (h1.mono (by omega)).put _ (((h1.f _).laid w).mono (by omega))
theorem Bs.lay {n : Nat} {D : Dk} (h : Bs n D) (p : Pth) (w : Wr) : Bs (n + w.d.length + 4) (D.lay p w).2 := by
  unfold Dk.lay
  have h1 := h.begin
  simp only
  split
  · exact h1.mono (by omega)
  · simp only; split
    · exact (h1.write p w).mono (by omega)
    · exact h1.mono (by omega)
theorem Bs.sync {n : Nat} {D : Dk} (h : Bs n D) (p : Pth) : Bs (n + 1) (D.sync p).2 := by
  unfold Dk.sync
  have h1 := h.begin
  simp only
  split
  · exact h1
  · simp only; split
    · exact h1.put _ (Fsb.flat (h1.f _).1)
    · exact h1
theorem Bs.rename {n : Nat} {D : Dk} (h : Bs n D) (a b : Pth) : Bs (n + 2) (D.rename a b).2 := by
  unfold Dk.rename
  have h1 := h.begin
  simp only
  split
  · exact h1.mono (by omega)
  · simp only; split
    · rename_i h2
      refine h1.change _ (fun i _ => ?_)
      have h3 : nameB a = true ∧ dirP a = dirP b := by
        have := h2.1
        unfold Dk.renE at this
        split at this
        · cases this
        · rename_i h4; split at this
          · cases this
          · rename_i h5; exact ⟨by cases hn : nameB a with
              | true => rfl
              | false => exact absurd (.inl hn) h4, by simpa using h5⟩
      unfold Chg.dir
      rw [if_neg (name_ne h3.1)]; exact h3.2.symm
    · exact h1.mono (by omega)
theorem Bs.syncDir {n : Nat} {D : Dk} (h : Bs n D) (p : Pth) : Bs (n + 1) (D.syncDir p).2 := by
  unfold Dk.syncDir
  have h1 := h.begin
  simp only
  split
  · exact h1
  · simp only; split
    · obtain ⟨U, e1, e2, e3, e4⟩ := h1.un
      refine ⟨h1.an, asc_merge h1.ast _, Nat.le_trans (List.length_filter_le _ _) h1.lg, h1.op, h1.fl, h1.f, ⟨U, e1, e2, fun q hq => ?_, fun c hc => e4 c (List.mem_filter.1 hc).1⟩, fun c hc => h1.ld c (List.mem_filter.1 hc).1⟩
      have hq : (mget (merge D.begin.2.now D.begin.2.stays p) q).isSome = true := hq
      rw [mget_merge h1.an] at hq
      split at hq
      · exact e2 q hq
      · exact e3 q hq
    · exact h1
theorem Bs.stop {n : Nat} {D : Dk} (h : Bs n D) (k : Nat) : Bs n (D.stop k) := ⟨h.an, h.ast, h.lg, h.op, h.fl, h.f, h.un, h.ld⟩
theorem part_len (w : Wr) (b : List UInt8) (k : Nat) (hk : k < w.ways) : (w.part b k).length ≤ (w.on b w.d.length).length := by
  unfold Wr.part
  have h := on_len w b
  have h2 : ∀ m, m ≤ w.d.length → (w.on b m).length = (if w.b = true then b.length else 0) + m := fun m hm => by
    unfold Wr.on
    rw [List.length_append, List.length_take, Nat.min_eq_left hm]; split <;> simp
  unfold Wr.ways at hk
  split
  · rw [h2 _ (Nat.min_le_right _ _), h]; omega
  · rw [List.length_append, h2 _ (by omega), List.length_replicate, h]; omega
theorem wayW_len {n : Nat} : ∀ (ws : List Wr) (b : List UInt8) (k : Nat), (∀ j, (onAll (ws.take j) b).length ≤ n) → (wayW ws b k).length ≤ n
  | [], b, k, h => by simpa [onAll, wayW] using h 0
  | w :: ws, b, k, h => by
    have h1 : (w.on b w.d.length).length ≤ n := by simpa [onAll] using h 1
    unfold wayW
    split
    · simpa [onAll] using h 0
    · split
      · exact Nat.le_trans (part_len w b (k - 1) (by unfold Wr.ways at *; omega)) h1
      · exact wayW_len ws _ _ (fun j => by simpa [onAll] using h (j + 1))
theorem crashD_in {U : List Pth} {picks : List Int} {D : Dk} (hU : ∀ c ∈ D.log, ∀ i, c.f = some i → c.n ∈ U) : ∀ (L : List Pth) (s : Nms × Nat), Inn U s.1 → Asc s.1 → Inn U (L.foldl (crashD picks D) s).1 ∧ Asc (L.foldl (crashD picks D) s).1
  | [], s, h, ha => ⟨h, ha⟩
  | x :: L, s, h, ha => by
    rw [List.foldl_cons]
    refine crashD_in hU L _ ?_ ?_
    · rw [crashD_st]; exact inn_apl h (fun c hc => hU c (chgs_mem (List.mem_of_mem_take hc)).1)
    · rw [crashD_st]; exact asc_apl ha _
theorem crashF_in {n : Nat} (picks : List Int) : ∀ (L : Nms) (s : List Fdt × Nat), (∀ i, Fsb n (fget s.1 i)) → ∀ i, Fsb n (fget (L.foldl (crashF picks) s).1 i)
  | [], s, h => h
  | x :: L, s, h => by
    rw [List.foldl_cons]
    refine crashF_in picks L _ (fun i => ?_)
    unfold crashF
    simp only
    split
    · exact h i
    · have h9 := wayW_len (n := n) (fget s.1 x.2).w (fget s.1 x.2).stays (pickN picks s.2 (waysF (fget s.1 x.2).w)) (h x.2).2.2.2.2
      show Fsb n ((s.1.set x.2 _).getD i _)
      by_cases hi : x.2 < s.1.length
      · by_cases e : i = x.2
        · rw [e, List.getD_eq_getElem?_getD, List.getElem?_set_self hi]; exact Fsb.flat h9
        · rw [List.getD_eq_getElem?_getD, List.getElem?_set_ne (Ne.symm e), ← List.getD_eq_getElem?_getD]; exact h i
      · rw [List.set_eq_of_length_le (by omega)]; exact h i
theorem Bs.crash {n : Nat} {D : Dk} (h : Bs n D) (picks : List Int) : Bs n (D.crash picks) := by
  obtain ⟨U, h1, h2, h3, h4⟩ := h.un
  obtain ⟨c1, c2⟩ := crashD_in (picks := picks) h4 D.dirty (D.stays, 0) h3 h.ast
  exact ⟨c2, c2, Nat.zero_le _, h.op, by show (D.crashA picks).1.length ≤ n; unfold Dk.crashA; rw [crashF_len]; exact h.fl, crashF_in picks _ _ h.f, ⟨U, h1, c1, c1, nofun⟩, nofun⟩

end Go.Proofs.YtdliddjkacbggaaDoor.SimQ
/-
  The disk: the statements' known example, and their helpers.
-/
namespace Go.Proofs.YtdliddjkacbggaaDoor.SimR
open Go.Proofs.YtdliddjkacbggaaDoor.E Go.RowKit Go.Proofs.YtdliddjkacbggaaDoor.SimA Go.Proofs.YtdliddjkacbggaaDoor.SimB Go.Proofs.YtdliddjkacbggaaDoor.SimC Go.Proofs.YtdliddjkacbggaaDoor.SimD Go.Proofs.YtdliddjkacbggaaDoor.SimE Go.Proofs.YtdliddjkacbggaaDoor.SimF Go.Proofs.YtdliddjkacbggaaDoor.SimG Go.Proofs.YtdliddjkacbggaaDoor.SimH Go.Proofs.YtdliddjkacbggaaDoor.SimI Go.Proofs.YtdliddjkacbggaaDoor.SimK Go.Proofs.YtdliddjkacbggaaDoor.SimN Go.Proofs.YtdliddjkacbggaaDoor.SimQ
set_option maxRecDepth 20000
set_option linter.unusedVariables false
set_option linter.unusedSimpArgs false
set_option linter.unusedSectionVars false
theorem mx_of {W : World} (h : W.ShapedOpen Tryd.prog) : ∃ m, MX m W.heap ∧ BF (fun b => b = 0) W.heap.size := by
  obtain ⟨m, hm⟩ := cell_of_shapedOpen_int (g := 0) (t := 3) (zero := #[.int .i64 0]) h (by decide) (by kernel_rfl) rfl (by kernel_rfl) (by kernel_rfl) Tryd.underlying3
  have hc : E.cell W.heap ⟨0, 0, none⟩ = some (.int .i64 m) := by rw [← (At.cell (w0 := W) ⟨rfl, rfl, rfl, rfl, Nat.le_refl _⟩ _)]; exact hm
  refine ⟨m, ⟨⟨rfl, fun j c hj => ?_⟩, rfl⟩, fun b hb => ?_⟩
  · cases j with
    | zero => cases hj; exact hc
    | succ j => cases hj
  · have := World.block_lt_of_cell? W _ hm; simp only at hb; omega

section
variable {P : Program} {w0 : World} {n : Nat} {l : FL} {H : Heap} {o : Oper}
end


theorem DFL.of {k : Nat} {K : List Nat} (d : DL k K) : DFL (fun b => b + 1 = k) K := fun j hj => DF.of (d j hj)
def wiN (a : Int) (n : Nat) : Nat := (a % (n : Int)).toNat
theorem wiN_lt {a : Int} {n : Nat} (h : 0 < n) : wiN a n < n := by
  unfold wiN
  have := Int.emod_lt_of_pos a (show (0 : Int) < n by omega)
  have := Int.emod_nonneg a (show (n : Int) ≠ 0 by omega)
  omega
theorem wiN_neg {a : Int} {n : Nat} (h : 0 < n) (h2 : a.tmod n < 0) : ((wiN a n : Nat) : Int) = a.tmod n + n := by
  unfold wiN
  have h3 := Int.emod_nonneg a (show (n : Int) ≠ 0 by omega)
  rw [Int.toNat_of_nonneg h3]
  rw [Int.tmod_eq_emod] at h2 ⊢
  split at h2
  · omega
  · rename_i h4; rw [if_neg h4]; simp
theorem wiN_pos {a : Int} {n : Nat} (h : 0 < n) (h2 : ¬ a.tmod n < 0) : ((wiN a n : Nat) : Int) = a.tmod n := by
  unfold wiN
  have h3 := Int.emod_nonneg a (show (n : Int) ≠ 0 by omega)
  have h5 := Int.emod_lt_of_pos a (show (0 : Int) < n by omega)
  rw [Int.toNat_of_nonneg h3]
  rw [Int.tmod_eq_emod] at h2 ⊢
  split at h2
  · rename_i h4; rw [if_pos h4]; simp
  · rename_i h4
    simp only [Int.natAbs_natCast] at h2
    omega
def paths : List Pth := [[97], [98], [100, 47, 97], [100, 47, 98], [100, 47, 101, 47, 97]]
end Go.Proofs.YtdliddjkacbggaaDoor.SimR
/-
  A journal on a disk: steps one behind the other; the contracts of the steps.
-/
namespace Go.Proofs.YtdliddjkacbggaaDoor.WalD
open Go.Proofs.YtdliddjkacbggaaDoor.E Go.RowKit Go.Proofs.YtdliddjkacbggaaDoor.SimA Go.Proofs.YtdliddjkacbggaaDoor.SimB Go.Proofs.YtdliddjkacbggaaDoor.SimC Go.Proofs.YtdliddjkacbggaaDoor.SimD Go.Proofs.YtdliddjkacbggaaDoor.SimE Go.Proofs.YtdliddjkacbggaaDoor.SimF Go.Proofs.YtdliddjkacbggaaDoor.SimG Go.Proofs.YtdliddjkacbggaaDoor.SimH Go.Proofs.YtdliddjkacbggaaDoor.SimI Go.Proofs.YtdliddjkacbggaaDoor.SimQ Go.Proofs.YtdliddjkacbggaaDoor.SimR Go.Proofs.YtdliddjkacbggaaDoor.WalA Go.Proofs.YtdliddjkacbggaaDoor.WalB Go.Proofs.YtdliddjkacbggaaDoor.WalC
set_option maxRecDepth 20000
set_option linter.unusedVariables false
set_option linter.unusedSimpArgs false
set_option linter.unusedSectionVars false
set_option maxRecDepth 100000 in
theorem inf23 : Inf Tryd.prog 23 5 1 1 := ⟨Tryd.underlying23, _, _, rfl, rfl, rfl, rfl, rfl⟩

section
variable {P : Program} {w0 : World} {n : Nat} {l : FL} {H H1 : Heap} {o : Oper}
/-- a field's address, whatever is in the heap now -/
theorem Y.fieldAddrX {x : Operand} {s : TypeId} {k off sz2 : Nat} {ad : Addr} {cs : List Value} {fs : Array Field} {fd : Field} (h : Pt H1 ad cs) (ho : o.op = .fieldAddr s x k) (hu : ∀ w, (underlying s).run P w = .ok (.struct fs) w) (hk : fs[k]? = some fd) (hof : fd.offset = off)
    (hsz : ∀ w, (sizeOf fd.type).run P w = .ok sz2 w) (hz : sz2 ≠ 0) (hx : opv l x = some (.pointer (some ad))) : Y P w0 n l H o (.pointer (some (ad.add off))) := by
  intro ac w hf ha
  simp [execOp, ho, hf.eval hx, Instr.fieldAt, Instr.sureAddr, fieldPlace, hu, hk, hof, hsz, hz]
end
def newP (p : Pth) : Pth := p ++ [46, 110, 101, 119]
abbrev Stp := Dk → Nat × Dk
/-- steps one behind the other, up to the first one that fails -/
def runD : List Stp → Dk → Nat × Dk
  | [], D => (0, D)
  | f :: fs, D => if (f D).1 = 0 then runD fs (f D).2 else f D
def stp (Fs : List Stp) (i : Nat) : Stp := Fs.getD i (fun D => (0, D))
theorem runD_app : ∀ (a b : List Stp) (D : Dk), runD (a ++ b) D = if (runD a D).1 = 0 then runD b (runD a D).2 else runD a D
  | [], b, D => by simp [runD]
  | f :: a, b, D => by
    rw [List.cons_append, runD, runD]
    by_cases h : (f D).1 = 0
    · rw [if_pos h, if_pos h, runD_app a b]
    · rw [if_neg h, if_neg h, if_neg h]
theorem runD_one (f : Stp) (D : Dk) : runD [f] D = f D := by
  unfold runD runD
  split
  · rename_i h; exact Prod.ext h.symm rfl
  · rfl
theorem runD_take {Fs : List Stp} {i : Nat} {D : Dk} (h : i < Fs.length) (h0 : (runD (Fs.take i) D).1 = 0) : runD (Fs.take (i + 1)) D = stp Fs i (runD (Fs.take i) D).2 := by
  rw [List.take_succ_eq_append_getElem h, runD_app, if_pos h0, runD_one]
  unfold stp; rw [List.getD_eq_getElem?_getD, List.getElem?_eq_getElem h]; rfl
theorem runD_stop {Fs : List Stp} {i : Nat} {D : Dk} (h : (runD (Fs.take i) D).1 ≠ 0) : runD Fs D = runD (Fs.take i) D := by
  conv => lhs; rw [← List.take_append_drop i Fs]
  rw [runD_app, if_neg h]
theorem bs_run {k : Nat} : ∀ {fs : List Stp} {N : Nat} {D : Dk}, (∀ f ∈ fs, ∀ N D, Bs N D → Bs (N + k) (f D).2) → Bs N D → Bs (N + k * fs.length) (runD fs D).2
  | [], N, D, _, h => by simpa [runD] using h
  | f :: fs, N, D, hf, h => by
    have h1 := hf f List.mem_cons_self N D h
    unfold runD
    split
    · have := bs_run (fs := fs) (fun g hg => hf g (List.mem_cons_of_mem _ hg)) h1
      rw [List.length_cons]
      exact this.mono (by rw [Nat.mul_add]; omega)
    · rw [List.length_cons]; exact h1.mono (by rw [Nat.mul_add]; omega)
theorem bs_runT {k : Nat} {fs : List Stp} {N : Nat} {D : Dk} (i : Nat) (hf : ∀ f ∈ fs, ∀ N D, Bs N D → Bs (N + k) (f D).2) (h : Bs N D) : Bs (N + k * fs.length) (runD (fs.take i) D).2 := by
  have := bs_run (fs := fs.take i) (fun f hm => hf f (List.mem_of_mem_take hm)) h
  exact this.mono (Nat.add_le_add_left (Nat.mul_le_mul_left _ (by rw [List.length_take]; omega)) _)
/-- what makes a journal anew -/
def frS (p : Pth) (l : List Rec) : List Stp := [fun D => D.lay (newP p) ⟨false, encW l⟩, fun D => D.sync (newP p), fun D => D.rename (newP p) p, fun D => D.syncDir (dirP p)]
/-- what puts a record behind the others -/
def apS (p : Pth) (n : Nat) (r : Rec) : List Stp := [fun D => D.lay p ⟨true, layW n r⟩, fun D => D.sync p, fun D => D.lay p ⟨true, [67]⟩, fun D => D.sync p]
theorem frS_bs (p : Pth) (l : List Rec) : ∀ f ∈ frS p l, ∀ N D, Bs N D → Bs (N + ((encW l).length + 20)) (f D).2 := by
  intro f hf N D h
  simp only [frS, List.mem_cons, List.not_mem_nil, or_false] at hf
  rcases hf with rfl | rfl | rfl | rfl
  · exact (h.lay (newP p) ⟨false, encW l⟩).mono (by simp only; omega)
  · exact (h.sync _).mono (by omega)
  · exact (h.rename _ _).mono (by omega)
  · exact (h.syncDir _).mono (by omega)
theorem apS_bs (p : Pth) (n : Nat) (r : Rec) : ∀ f ∈ apS p n r, ∀ N D, Bs N D → Bs (N + (r.length + 20)) (f D).2 := by
  intro f hf N D h
  simp only [apS, List.mem_cons, List.not_mem_nil, or_false] at hf
  rcases hf with rfl | rfl | rfl | rfl
  · exact (h.lay p ⟨true, layW n r⟩).mono (by simp only [layW_len]; omega)
  · exact (h.sync _).mono (by omega)
  · exact (h.lay p ⟨true, [67]⟩).mono (by simp only [List.length_singleton]; omega)
  · exact (h.sync _).mono (by omega)
def freshD (D : Dk) (p : Pth) (l : List Rec) : Nat × Dk := runD (frS p l) D
theorem bs_fresh {N : Nat} {D : Dk} (h : Bs N D) (p : Pth) (l : List Rec) : Bs (N + 4 * ((encW l).length + 20)) (freshD D p l).2 := (bs_run (frS_bs p l) h).mono (by simp [frS]; omega)
theorem dirP_le (p : Pth) : (dirP p).length ≤ p.length := by
  unfold dirP headP; split
  · exact List.length_take_le' _ _
  · exact Nat.zero_le _
theorem newP_len (p : Pth) : (newP p).length = p.length + 4 := by simp [newP]
/-! ### a function value that does a step -/
abbrev FnV := Nat × List Value
abbrev fFn (x : FnV) : List Value := [.func (.func x.1) #[] x.2.toArray]
theorem fFn_len (x : FnV) : (fFn x).length = 1 := rfl
theorem fFn_one (x : FnV) : ∀ u ∈ fFn x, u.oneCell' = true := by intro u hu; simp only [List.mem_singleton] at hu; subst hu; rfl
def CloD (w0 : World) (b : Nat) (f : Stp) (v : Value) (K : List Nat) (H : Heap) (D : Dk) : Prop :=
  Clo Tryd.prog w0 v [] H (fun r H2 => ∃ (K2 : List Nat) (g2 : Gh), r = .int .i64 ((f D).1 : Int) ∧ PDk K2 g2 H2 b (f D).2 ∧ NxK K H.size K2 ∧ Mo (Ms K) H H2)

theorem first_ct (K : List Nat) (g : Gh) (b : Nat) (D : Dk) (v : Value) (l : List FnV) (Fs : List Stp) (F : Nat → Prop) (w0 : World) (H0 : Heap)
    (hf : PDk K g H0 b D) (hl : Rd F H0 fFn 1 v l) (bf_hl : BF F H0.size) (dfl : DFL F K) (hll : l.length = Fs.length) (hst : ∀ (i : Nat) (h : i < l.length) (K' : List Nat) (g' : Gh) (H' : Heap), PDk K' g' H' b (runD (Fs.take i) D).2 → NxK K H0.size K' → Mo (Ms K) H0 H' → CloD w0 b (stp Fs i) (.func (.func l[i].1) #[] l[i].2.toArray) K' H' (runD (Fs.take i) D).2) :
    Ct Tryd.prog w0 32 #[v] H0 (fun r H2 => ∃ K2 : List Nat, ∃ g2 : Gh, r = .int .i64 ((runD Fs D).1 : Int) ∧ (PDk K2 g2 H2 b (runD Fs D).2) ∧ (NxK K H0.size K2) ∧ Mo (Ms K) H0 H2) := by
  refine Ct.enter (args := [v]) Tryd.func32 rfl rfl rfl ?_
  intro Q0 hret
  have hm0 : Mo (Ms K) H0 H0 := Mo.refl _ _
  have nx_hm0_hf := NxK.refl K H0.size
  have hbk_hf := hf.bk
  have hlm := hl.len
  refine CW.seq (fun K1 hK1 hE1 => ?_)
  refine CW.region ?_
  refine LR.v (Y.assign rfl rfl) (Wd.u rfl) rfl rfl ?_
  refine LR.nil ?_
  refine hK1 _ _ ?_
  refine CW.seq (fun K2 hK2 hE2 => ?_)
  refine CW.seq (fun K3 hK3 hE3 => ?_)
  refine CW.region ?_
  refine LR.v (Y.move rfl rfl) (Wd.u rfl) rfl rfl ?_
  refine LR.v (Y.len hl rfl Tryd.runUnderlying90 rfl) (Wd.u rfl) rfl rfl ?_
  refine LR.v (Y.move rfl rfl) (Wd.u rfl) rfl rfl ?_
  refine LR.nil ?_
  refine hK3 _ _ ?_
  refine CW.block (fun K4 hK4 hX4 hE4 => ?_)
  refine CW.loop (fun (s_ : (Nat) × (List Nat) × (Gh)) => match s_ with | (i, Ki, gi) => [(6, v), (7, .int .i64 (l.length : Int)), (8, .int .i64 (i : Int))])
    (fun (s_ : (Nat) × (List Nat) × (Gh)) (H : Heap) => match s_ with | (i, Ki, gi) => (PDk Ki gi H b (runD (Fs.take i) D).2) ∧ (i ≤ l.length) ∧ ((runD (Fs.take i) D).1 = 0) ∧ (NxK K H0.size Ki) ∧ Mo (Ms K) H0 H)
    (fun (s_ : (Nat) × (List Nat) × (Gh)) => match s_ with | (i, Ki, gi) => l.length - i) (0, K, g) ⟨rfl, rfl, rfl, trivial⟩ ?_ ?_
  ·
    exact ⟨hf, (by omega), rfl, NxK.refl _ _, Mo.refl _ _⟩
  rintro ⟨i, Ki, gi⟩ HL1 hI1 K5 hN5 hE5
  obtain ⟨hf, hi, h0, nxl_hf, hlm1⟩ := hI1
  have df1 := DFL.appK (dfl) (bf_hl.mono hm0.size) nxl_hf
  have nx2 : NxK K H0.size Ki := NxK.tr (nx_hm0_hf) nxl_hf hm0.size
  replace hl := hl.upL hlm1 (dfl)
  replace hm0 := hm0.trL hlm1 (MIL.ofK (nx_hm0_hf) (by intro k hk; simp [hk]))
  have hz1 := hlm1.size
  have hbk_hf := hf.bk
  have nx3 := nxl_hf
  refine CW.seq (fun K6 hK6 hE6 => ?_)
  refine CW.region ?_
  refine LR.v (Y.lss rfl rfl rfl) (Wd.u rfl) rfl rfl ?_
  refine LR.nil ?_
  refine hK6 _ _ ?_
  refine CW.seq (fun K7 hK7 hE7 => ?_)
  refine CW.condp rfl (fun c9 => ?_) (fun c9 => ?_)
  ·
    have hil : i < l.length := by omega
    have htk := runD_take (Fs := Fs) (D := D) (i := i) (by omega) h0
    refine CW.skip ?_
    refine hK7 _ _ ?_
    refine CW.seq (fun K8 hK8 hE8 => ?_)
    refine CW.block (fun K9 hK9 hX9 hE9 => ?_)
    refine CW.seq (fun K10 hK10 hE10 => ?_)
    refine CW.region ?_
    refine LR.e (g := fun ad => .pointer (some ad)) (Y.indexAddrF hl (i) rfl Tryd.runUnderlying90 Tryd.sizeOf67 rfl rfl (by first | rfl | omega) (by first | omega | (simp; omega) | (simp; done))) (Wd.u rfl) rfl rfl (fun ad10 pt10 => ?_)
    have bf_pt10 := bf_hl
    refine LR.v (Y.load1 pt10.pt rfl Tryd.isAgg67 rfl) (Wd.u rfl) rfl rfl ?_
    refine LR.v (Y.assign rfl rfl) (Wd.u rfl) rfl rfl ?_
    refine LR.nil ?_
    refine hK10 _ _ ?_
    refine CW.seq (fun K11 hK11 hE11 => ?_)
    refine CW.region ?_
    refine LR.v (Y.move rfl rfl) (Wd.u rfl) rfl rfl ?_
    refine LR.calld rfl rfl rfl (Wd.u rfl) rfl rfl (hst i hil Ki gi _ hf (nx2) hm0) (fun v13 H13 r13 => ?_)
    have ql4 := hf.bk
    obtain ⟨K13, g13, rfl, hf, hkd13, hs13⟩ := r13
    have df5 := DFL.appK (df1) (bf_hl.mono hm0.size) hkd13
    have nx6 : NxK K H0.size K13 := NxK.tr (nx2) hkd13 hm0.size
    have nx7 : NxK K H0.size K13 := NxK.tr (nx3) hkd13 hlm1.size
    replace hl := hl.upL hs13 (df1)
    replace hm0 := hm0.trL hs13 (MIL.ofK (nx2) (by intro k hk; simp [hk]))
    replace hlm1 := hlm1.trL hs13 (MIL.ofK (nx3) (by intro k hk; simp [hk]))
    have hz2 := hs13.size
    have hbk_hf := hf.bk
    refine LR.v (Y.assign rfl rfl) (Wd.u rfl) rfl rfl ?_
    refine LR.nil ?_
    refine hK11 _ _ ?_
    refine CW.seq (fun K12 hK12 hE12 => ?_)
    refine CW.region ?_
    refine LR.v (Y.move rfl rfl) (Wd.u rfl) rfl rfl ?_
    refine LR.v (Y.neq rfl rfl rfl) (Wd.u rfl) rfl rfl ?_
    refine LR.nil ?_
    refine hK12 _ _ ?_
    refine CW.condp rfl (fun c15 => ?_) (fun c15 => ?_)
    ·
      have hne : (runD (Fs.take (i + 1)) D).1 ≠ 0 := by rw [htk]; omega
      have hst2 := runD_stop hne
      rw [htk] at hst2
      refine CW.seq (fun K13 hK13 hE13 => ?_)
      refine CW.region ?_
      refine LR.v (Y.move rfl rfl) (Wd.u rfl) rfl rfl ?_
      refine LR.v (Y.assign rfl rfl) (Wd.u rfl) rfl rfl ?_
      refine LR.nil ?_
      refine hK13 _ _ ?_
      refine CW.ret (hE9 .ret nofun (by simp) _ _ (hE8 .ret nofun _ _ (hE5 .ret nofun _ _ (hE4 .ret nofun (by simp) _ _ (hE2 .ret nofun _ _ (hret .ret (.inr rfl) _ _ _ (res1 rfl rfl) ?_))))))
      exact ⟨_, _, by rw [hst2], by rw [hst2]; exact hf, nx6, hm0⟩
    ·
      refine CW.skip ?_
      refine hK9 _ _ ?_
      refine hK8 _ _ ?_
      refine CW.region ?_
      refine LR.v (Y.addi rfl rfl rfl (by omega)) (Wd.u rfl) rfl rfl ?_
      refine LR.v (Y.move rfl rfl) (Wd.u rfl) rfl rfl ?_
      refine LR.nil ?_
      refine QN.sub (hN5 (i + 1, K13, g13) _ ?_ ?_) ⟨rfl, (iv (by omega)), (iv (by omega)), trivial⟩
      · exact ⟨by rw [htk]; exact hf, (by omega), by rw [htk]; omega, nx7, hlm1⟩
      · first | omega | (simp only; omega) | (simp; omega)
  ·
    refine CW.exit (hE7 (.exit 0) nofun _ _ (hE5 (.exit 0) nofun _ _ (hX4 _ _ ?_)))
    refine hK2 _ _ ?_
    refine CW.seq (fun K14 hK14 hE14 => ?_)
    refine CW.region ?_
    refine LR.v (Y.assign rfl rfl) (Wd.u rfl) rfl rfl ?_
    refine LR.nil ?_
    refine hK14 _ _ ?_
    refine CW.ret (hret .ret (.inr rfl) _ _ _ (res1 rfl rfl) ?_)
    have hil : i = Fs.length := by omega
    rw [hil, List.take_length] at hf h0
    exact ⟨_, _, by rw [h0]; rfl, hf, nx2, hm0⟩


/-- a journal's place in memory, as a step sees it -/
structure LgS (K : List Nat) (H : Heap) (mx_ : Int) (b c lb : Nat) (p : Pth) (n : Nat) (br : Bool) : Prop where
  mx : MX mx_ H
  bmx : BF (fun b => b = 0) H.size
  dmx : DFL (fun b => b = 0) K
  cv : Var 41 H c [ptr lb]
  lg : Var 65 H lb [ptr b, Str p, .int .i64 (n : Int), .bool br]
  dc : DL (c + 1) K
  dl : DL (lb + 1) K
theorem LgS.up {K K2 : List Nat} {H H2 : Heap} {mx_ : Int} {b c lb n : Nat} {p : Pth} {br : Bool} (h : LgS K H mx_ b c lb p n br) (s : Mo (Ms K) H H2) (x : NxK K H.size K2) : LgS K2 H2 mx_ b c lb p n br :=
  ⟨h.mx.upL s h.dmx, fun b hb => by have := h.bmx b hb; have := s.size; omega, DFL.appK h.dmx h.bmx x, h.cv.upL s h.dc, h.lg.upL s h.dl, DL.appK h.dc h.cv.lt x, DL.appK h.dl h.lg.lt x⟩
/-- a row that a step sees -/
structure RwS {α : Type} (K : List Nat) (F : Nat → Prop) (H : Heap) (f : α → List Value) (v : Value) (l : List α) : Prop where
  rd : Rd F H f 1 v l
  bf : BF F H.size
  df : DFL F K
theorem RwS.up {α : Type} {K K2 : List Nat} {F : Nat → Prop} {H H2 : Heap} {f : α → List Value} {v : Value} {l : List α} (h : RwS K F H f v l) (s : Mo (Ms K) H H2) (x : NxK K H.size K2) : RwS K2 F H2 f v l :=
  ⟨h.rd.upL s h.df, fun b hb => by have := h.bf b hb; have := s.size; omega, DFL.appK h.df h.bf x⟩
structure VaS (K : List Nat) (H : Heap) (e : TypeId) (c : Nat) (cs : List Value) : Prop where
  v : Var e H c cs
  d : DL (c + 1) K
theorem VaS.up {K K2 : List Nat} {H H2 : Heap} {e : TypeId} {c : Nat} {cs : List Value} (h : VaS K H e c cs) (s : Mo (Ms K) H H2) (x : NxK K H.size K2) : VaS K2 H2 e c cs := ⟨h.v.upL s h.d, DL.appK h.d h.v.lt x⟩

set_option maxHeartbeats 2000000 in
theorem async_ct (mx_ : Int) (K : List Nat) (g : Gh) (b : Nat) (D : Dk) (c lb : Nat) (p : Pth) (n : Nat) (br : Bool) (w0 : World) (H0 : Heap)
    (hf : PDk K g H0 b D) (mx : MX mx_ H0) (bf_mx : BF (fun b => b = 0) H0.size) (dmx : DFL (fun b => b = 0) K) (hc : Var 41 H0 c [ptr lb]) (hlg : Var 65 H0 lb [ptr b, Str p, .int .i64 (n : Int), .bool br]) (dc : DL (c + 1) K) (dl : DL (lb + 1) K) (hl : p.length ≤ 4294967280) (hB : Bd 274877906944 D) :
    Ct Tryd.prog w0 30 #[ptr c] H0 (fun r H2 => ∃ K2 : List Nat, ∃ g2 : Gh, r = .int .i64 ((D.sync p).1 : Int) ∧ (PDk K2 g2 H2 b (D.sync p).2) ∧ (NxK K H0.size K2) ∧ Mo (Ms K) H0 H2) := by
  refine Ct.enter (args := [ptr c]) Tryd.func30 rfl rfl rfl ?_
  intro Q0 hret
  have hm0 : Mo (Ms K) H0 H0 := Mo.refl _ _
  have nx_hm0_hf := NxK.refl K H0.size
  have hbk_hf := hf.bk
  have nx_hm0_hc := Nx.refl (c + 1) H0.size
  have hlt_hc := hc.lt
  have nx_hm0_hlg := Nx.refl (lb + 1) H0.size
  have hlt_hlg := hlg.lt
  refine CW.seq (fun K1 hK1 hE1 => ?_)
  refine CW.region ?_
  refine LR.v (Y.assign rfl rfl) (Wd.u rfl) rfl rfl ?_
  refine LR.nil ?_
  refine hK1 _ _ ?_
  refine CW.seq (fun K2 hK2 hE2 => ?_)
  refine CW.region_tail 8 rfl (by kernel_rfl) (fun T1 hT1 => ?_)
  refine LR.v (Y.load1 hc.pt rfl Tryd.isAgg41 rfl) (Wd.u rfl) rfl rfl ?_
  refine LR.v (Y.nilCheck rfl rfl) (Wd.u rfl) rfl rfl ?_
  refine LR.v (Y.fieldAddr hlg.pt rfl Tryd.runUnderlying65 rfl rfl Tryd.sizeOf38 (by decide) rfl) (Wd.u rfl) rfl rfl ?_
  refine LR.v (Y.load1 hlg.pt rfl Tryd.isAgg38 rfl) (Wd.u rfl) rfl rfl ?_
  refine LR.v (Y.load1 hc.pt rfl Tryd.isAgg41 rfl) (Wd.u rfl) rfl rfl ?_
  refine LR.v (Y.nilCheck rfl rfl) (Wd.u rfl) rfl rfl ?_
  refine LR.v (Y.fieldAddr hlg.pt rfl Tryd.runUnderlying65 rfl rfl Tryd.sizeOf9 (by decide) rfl) (Wd.u rfl) rfl rfl ?_
  refine LR.v (Y.load1 (hlg.pt.drop 1) rfl Tryd.isAgg9 rfl) (Wd.u rfl) rfl rfl ?_
  refine LR.nil (hT1 _ ?_)
  -- call (*selvage/simfs.FS).Sync
  refine LR.call rfl Tryd.call31 rfl (Wd.u rfl) rfl rfl (sync_ct mx_ K g b D p w0 _ hf mx (bf_mx.mono (by omega)) (dmx) hl hB) (fun v10 H10 r10 => ?_)
  have ql1 := hf.bk
  have ql2 := hc.lt
  have ql3 := hlg.lt
  obtain ⟨K10, g10, rfl, hf, hkd10, hs10⟩ := r10
  have df4 := DFL.appK (dmx) (bf_mx.mono hm0.size) hkd10
  have dj5 : DL (c + 1) K10 := DL.appK (dc) ql2 hkd10
  have dj6 : DL (lb + 1) K10 := DL.appK (dl) ql3 hkd10
  have nx7 : NxK K H0.size K10 := NxK.tr (nx_hm0_hf) hkd10 hm0.size
  replace mx := mx.upL hs10 (dmx)
  replace hc := hc.upL hs10 (dc)
  replace hlg := hlg.upL hs10 (dl)
  replace hm0 := hm0.trL hs10 (MIL.ofK (nx_hm0_hf) (by intro k hk; simp [hk]))
  have hz1 := hs10.size
  have hbk_hf := hf.bk
  refine LR.v (Y.assign rfl rfl) (Wd.u rfl) rfl rfl ?_
  refine LR.nil ?_
  refine hK2 _ _ ?_
  refine CW.ret (hret .ret (.inr rfl) _ _ _ (res1 rfl rfl) ?_)
  exact ⟨_, _, rfl, hf, nx7, hm0⟩

set_option maxHeartbeats 2000000 in
theorem alay_ct (mx_ : Int) (K : List Nat) (g : Gh) (b : Nat) (D : Dk) (c lb : Nat) (p : Pth) (n : Nat) (br : Bool) (c3 : Nat) (s : SV) (rc : List UInt8) (F : Nat → Prop) (w0 : World) (H0 : Heap)
    (hf : PDk K g H0 b D) (mx : MX mx_ H0) (bf_mx : BF (fun b => b = 0) H0.size) (dmx : DFL (fun b => b = 0) K) (hc : Var 41 H0 c [ptr lb]) (hlg : Var 65 H0 lb [ptr b, Str p, .int .i64 (n : Int), .bool br]) (dc : DL (c + 1) K) (dl : DL (lb + 1) K) (hc3 : Var 23 H0 c3 [s.v]) (d3 : DL (c3 + 1) K) (hr : Rd F H0 fB 1 s.v rc) (bf_hr : BF F H0.size) (dfr : DFL F K) (hrl : rc.length ≤ 4294967000) (hl : p.length ≤ 4294967280) (hB : Bd 274877906944 D) :
    Ct Tryd.prog w0 33 #[ptr c, ptr c3] H0 (fun r H2 => ∃ K2 : List Nat, ∃ g2 : Gh, r = .int .i64 ((D.lay p ⟨true, layW n rc⟩).1 : Int) ∧ (PDk K2 g2 H2 b (D.lay p ⟨true, layW n rc⟩).2) ∧ (NxK K H0.size K2) ∧ Mo (Ms K) H0 H2) := by
  refine Ct.enter (args := [ptr c, ptr c3]) Tryd.func33 rfl rfl rfl ?_
  intro Q0 hret
  have hm0 : Mo (Ms K) H0 H0 := Mo.refl _ _
  have nx_hm0_hf := NxK.refl K H0.size
  have hbk_hf := hf.bk
  have nx_hm0_hc := Nx.refl (c + 1) H0.size
  have hlt_hc := hc.lt
  have nx_hm0_hlg := Nx.refl (lb + 1) H0.size
  have hlt_hlg := hlg.lt
  have nx_hm0_hc3 := Nx.refl (c3 + 1) H0.size
  have hlt_hc3 := hc3.lt
  refine CW.seq (fun K1 hK1 hE1 => ?_)
  refine CW.region ?_
  refine LR.v (Y.assign rfl rfl) (Wd.u rfl) rfl rfl ?_
  refine LR.nil ?_
  refine hK1 _ _ ?_
  refine CW.seq (fun K2 hK2 hE2 => ?_)
  refine CW.region_any (fun Hq => Mo (Ms K) H0 Hq) [] rfl ?_
  have hq1 : Mo (Ms K) H0 H0 := Mo.refl _ _
  have nx1 := NxK.refl K H0.size
  refine LH.take 0 (by kernel_rfl) rfl (by kernel_rfl) (by kernel_rfl) (by kernel_rfl) (fun Hq hq => Y.load1 (hc.upL hq (dc)).pt rfl Tryd.isAgg41 rfl) (Wd.u rfl) rfl rfl hq1 ?_
  refine LH.take 1 (by kernel_rfl) rfl (by kernel_rfl) (by kernel_rfl) (by kernel_rfl) (fun Hq hq => Y.nilCheck rfl rfl) (Wd.u rfl) rfl rfl hq1 ?_
  refine LH.take 2 (by kernel_rfl) rfl (by kernel_rfl) (by kernel_rfl) (by kernel_rfl) (fun Hq hq => Y.fieldAddr (hlg.upL hq (dl)).pt rfl Tryd.runUnderlying65 rfl rfl Tryd.sizeOf38 (by decide) rfl) (Wd.u rfl) rfl rfl hq1 ?_
  refine LH.take 3 (by kernel_rfl) rfl (by kernel_rfl) (by kernel_rfl) (by kernel_rfl) (fun Hq hq => Y.load1 (hlg.upL hq (dl)).pt rfl Tryd.isAgg38 rfl) (Wd.u rfl) rfl rfl hq1 ?_
  refine LH.take 4 (by kernel_rfl) rfl (by kernel_rfl) (by kernel_rfl) (by kernel_rfl) (fun Hq hq => Y.load1 (hc.upL hq (dc)).pt rfl Tryd.isAgg41 rfl) (Wd.u rfl) rfl rfl hq1 ?_
  refine LH.take 5 (by kernel_rfl) rfl (by kernel_rfl) (by kernel_rfl) (by kernel_rfl) (fun Hq hq => Y.nilCheck rfl rfl) (Wd.u rfl) rfl rfl hq1 ?_
  refine LH.take 6 (by kernel_rfl) rfl (by kernel_rfl) (by kernel_rfl) (by kernel_rfl) (fun Hq hq => Y.fieldAddr (hlg.upL hq (dl)).pt rfl Tryd.runUnderlying65 rfl rfl Tryd.sizeOf9 (by decide) rfl) (Wd.u rfl) rfl rfl hq1 ?_
  refine LH.take 7 (by kernel_rfl) rfl (by kernel_rfl) (by kernel_rfl) (by kernel_rfl) (fun Hq hq => Y.load1 ((hlg.upL hq (dl)).pt.drop 1) rfl Tryd.isAgg9 rfl) (Wd.u rfl) rfl rfl hq1 ?_
  refine LH.take 8 (by kernel_rfl) rfl (by kernel_rfl) (by kernel_rfl) (by kernel_rfl) (fun Hq hq => Y.load1 (hc.upL hq (dc)).pt rfl Tryd.isAgg41 rfl) (Wd.u rfl) rfl rfl hq1 ?_
  refine LH.take 9 (by kernel_rfl) rfl (by kernel_rfl) (by kernel_rfl) (by kernel_rfl) (fun Hq hq => Y.nilCheck rfl rfl) (Wd.u rfl) rfl rfl hq1 ?_
  refine LH.take 10 (by kernel_rfl) rfl (by kernel_rfl) (by kernel_rfl) (by kernel_rfl) (fun Hq hq => Y.fieldAddr (hlg.upL hq (dl)).pt rfl Tryd.runUnderlying65 rfl rfl Tryd.sizeOf3 (by decide) rfl) (Wd.u rfl) rfl rfl hq1 ?_
  refine LH.take 11 (by kernel_rfl) rfl (by kernel_rfl) (by kernel_rfl) (by kernel_rfl) (fun Hq hq => Y.load1 ((hlg.upL hq (dl)).pt.drop 2) rfl Tryd.isAgg3 rfl) (Wd.u rfl) rfl rfl hq1 ?_
  refine LH.take 12 (by kernel_rfl) rfl (by kernel_rfl) (by kernel_rfl) (by kernel_rfl) (fun Hq hq => Y.load1 (hc3.upL hq (d3)).pt rfl Tryd.isAgg23 rfl) (Wd.u rfl) rfl rfl hq1 ?_
  refine LH.one (i := 13) (by kernel_rfl) ?_
  -- call selvage/wal.lay
  refine LO.call rfl rfl Tryd.call26 rfl (Wd.u rfl) rfl rfl (wlay_ct n s rc w0 _ hr.any hrl) (fun v16 H16 r16 => ?_)
  obtain ⟨t16, k16, rfl, ow16, hk16, hs16⟩ := r16
  have dj2 : DL k16 K := DL.app2 (DL.zK) hf.bk hk16
  have df3 := DF.app (DF.z) (bf_mx.mono hm0.size) hk16
  have dj4 : Dj (c + 1) k16 := Dj.app (Dj.z) hc.lt hk16
  have dj5 : Dj (lb + 1) k16 := Dj.app (Dj.z) hlg.lt hk16
  have dj6 : Dj (c3 + 1) k16 := Dj.app (Dj.z) hc3.lt hk16
  have df7 := DF.app (DF.z) (bf_hr.mono hm0.size) hk16
  have nx8 : Nx 0 H0.size k16 := Nx.tr (Nx.refl 0 _) hk16 hm0.size
  have nx9 : Nx 0 H0.size k16 := Nx.tr (Nx.refl 0 _) hk16 hq1.size
  replace hf := hf.nw hs16
  replace mx := mx.nw hs16
  replace hc := hc.nw hs16
  replace hlg := hlg.nw hs16
  replace hc3 := hc3.nw hs16
  replace hr := hr.nw hs16
  replace hm0 := hm0.trN hs16
  replace hq1 := hq1.trN hs16
  have hz1 := hs16.size
  have hle_ow16 := ow16.le
  refine ⟨.inr hq1, LH.narrow (SH2 := fun Hq => Mo (Ms (K ++ [k16])) H16 Hq) (fun Hq hq => hq1.trL hq (MIL.app (MIL.ofK (nx1) (by intro k hk; simp [hk])) (MIL.cons (MI.app MI.z (nx9) (Nat.le_refl _)) MIL.nil))) ?_⟩
  have hq1 : Mo (Ms (K ++ [k16])) H16 H16 := Mo.refl _ _
  have nx10 := NxK.refl K H16.size
  have nx11 := Nx.refl k16 H16.size
  refine LH.one (i := 14) (by kernel_rfl) ?_
  -- call (*selvage/simfs.FS).Append
  refine LO.call rfl rfl Tryd.call34 rfl (Wd.u rfl) rfl rfl (append_ct mx_ K g b D p t16 (layW n rc) _ w0 _ hf mx (bf_mx.mono (by omega)) (dmx) ow16.rd (BF.of ow16.le) (DFL.of (dj2)) hl hB (by rw [layW_len]; omega)) (fun v17 H17 r17 => ?_)
  have ql12 := hf.bk
  have ql13 := hc.lt
  have ql14 := hlg.lt
  have ql15 := hc3.lt
  have ql16 := ow16.le
  obtain ⟨K17, g17, rfl, hf, hkd17, hs17⟩ := r17
  have df17 := DFL.appK (dmx) (bf_mx.mono hm0.size) hkd17
  have dj18 : DL (c + 1) K17 := DL.appK (dc) ql13 hkd17
  have dj19 : DL (lb + 1) K17 := DL.appK (dl) ql14 hkd17
  have dj20 : DL (c3 + 1) K17 := DL.appK (d3) ql15 hkd17
  have df21 := DFL.appK (dfr) (bf_hr.mono hm0.size) hkd17
  have dj22 : DL k16 K17 := DL.appK (dj2) ql16 hkd17
  have nx23 : NxK K H0.size K17 := NxK.tr (nx_hm0_hf) hkd17 hm0.size
  have nx24 : NxK K H16.size K17 := NxK.tr (nx10) hkd17 hq1.size
  replace mx := mx.upL hs17 (dmx)
  replace hc := hc.upL hs17 (dc)
  replace hlg := hlg.upL hs17 (dl)
  replace hc3 := hc3.upL hs17 (d3)
  replace hr := hr.upL hs17 (dfr)
  replace ow16 := ow16.upL hs17 (dj2)
  replace hm0 := hm0.trL hs17 (MIL.ofK (nx_hm0_hf) (by intro k hk; simp [hk]))
  replace hq1 := hq1.trL hs17 (MIL.ofK (nx10) (by intro k hk; simp [hk]))
  have hz2 := hs17.size
  have hbk_hf := hf.bk
  refine ⟨.inr hq1, LH.narrow (SH2 := fun Hq => Mo (Ms (K17 ++ [k16])) H17 Hq) (fun Hq hq => hq1.trL hq (MIL.app (MIL.ofK (nx24) (by intro k hk; simp [hk])) (MIL.cons (MI.app (MI.root (by simp)) (nx11) (Nat.le_refl _)) MIL.nil))) ?_⟩
  have hq1 : Mo (Ms (K17 ++ [k16])) H17 H17 := Mo.refl _ _
  have nx25 := NxK.refl K17 H17.size
  have nx26 := Nx.refl k16 H17.size
  refine LH.take 15 (by kernel_rfl) rfl (by kernel_rfl) (by kernel_rfl) (by kernel_rfl) (fun Hq hq => Y.assign rfl rfl) (Wd.u rfl) rfl rfl hq1 ?_
  refine LH.done (by kernel_rfl) ?_
  refine hK2 _ _ ?_
  refine CW.ret (hret .ret (.inr rfl) _ _ _ (res1 rfl rfl) ?_)
  exact ⟨_, _, rfl, hf, nx23, hm0⟩

set_option maxHeartbeats 2000000 in
theorem amark_ct (mx_ : Int) (K : List Nat) (g : Gh) (b : Nat) (D : Dk) (c lb : Nat) (p : Pth) (n : Nat) (br : Bool) (w0 : World) (H0 : Heap)
    (hf : PDk K g H0 b D) (mx : MX mx_ H0) (bf_mx : BF (fun b => b = 0) H0.size) (dmx : DFL (fun b => b = 0) K) (hc : Var 41 H0 c [ptr lb]) (hlg : Var 65 H0 lb [ptr b, Str p, .int .i64 (n : Int), .bool br]) (dc : DL (c + 1) K) (dl : DL (lb + 1) K) (hl : p.length ≤ 4294967280) (hB : Bd 274877906944 D) :
    Ct Tryd.prog w0 35 #[ptr c] H0 (fun r H2 => ∃ K2 : List Nat, ∃ g2 : Gh, r = .int .i64 ((D.lay p ⟨true, [67]⟩).1 : Int) ∧ (PDk K2 g2 H2 b (D.lay p ⟨true, [67]⟩).2) ∧ (NxK K H0.size K2) ∧ Mo (Ms K) H0 H2) := by
  refine Ct.enter (args := [ptr c]) Tryd.func35 rfl rfl rfl ?_
  intro Q0 hret
  have hm0 : Mo (Ms K) H0 H0 := Mo.refl _ _
  have nx_hm0_hf := NxK.refl K H0.size
  have hbk_hf := hf.bk
  have nx_hm0_hc := Nx.refl (c + 1) H0.size
  have hlt_hc := hc.lt
  have nx_hm0_hlg := Nx.refl (lb + 1) H0.size
  have hlt_hlg := hlg.lt
  refine CW.seq (fun K1 hK1 hE1 => ?_)
  refine CW.region ?_
  refine LR.v (Y.assign rfl rfl) (Wd.u rfl) rfl rfl ?_
  refine LR.nil ?_
  refine hK1 _ _ ?_
  refine CW.seq (fun K2 hK2 hE2 => ?_)
  refine CW.region_any (fun Hq => Mo (Ms K) H0 Hq) [] rfl ?_
  have hq1 : Mo (Ms K) H0 H0 := Mo.refl _ _
  have nx1 := NxK.refl K H0.size
  refine LH.take 0 (by kernel_rfl) rfl (by kernel_rfl) (by kernel_rfl) (by kernel_rfl) (fun Hq hq => Y.load1 (hc.upL hq (dc)).pt rfl Tryd.isAgg41 rfl) (Wd.u rfl) rfl rfl hq1 ?_
  refine LH.take 1 (by kernel_rfl) rfl (by kernel_rfl) (by kernel_rfl) (by kernel_rfl) (fun Hq hq => Y.nilCheck rfl rfl) (Wd.u rfl) rfl rfl hq1 ?_
  refine LH.take 2 (by kernel_rfl) rfl (by kernel_rfl) (by kernel_rfl) (by kernel_rfl) (fun Hq hq => Y.fieldAddr (hlg.upL hq (dl)).pt rfl Tryd.runUnderlying65 rfl rfl Tryd.sizeOf38 (by decide) rfl) (Wd.u rfl) rfl rfl hq1 ?_
  refine LH.take 3 (by kernel_rfl) rfl (by kernel_rfl) (by kernel_rfl) (by kernel_rfl) (fun Hq hq => Y.load1 (hlg.upL hq (dl)).pt rfl Tryd.isAgg38 rfl) (Wd.u rfl) rfl rfl hq1 ?_
  refine LH.take 4 (by kernel_rfl) rfl (by kernel_rfl) (by kernel_rfl) (by kernel_rfl) (fun Hq hq => Y.load1 (hc.upL hq (dc)).pt rfl Tryd.isAgg41 rfl) (Wd.u rfl) rfl rfl hq1 ?_
  refine LH.take 5 (by kernel_rfl) rfl (by kernel_rfl) (by kernel_rfl) (by kernel_rfl) (fun Hq hq => Y.nilCheck rfl rfl) (Wd.u rfl) rfl rfl hq1 ?_
  refine LH.take 6 (by kernel_rfl) rfl (by kernel_rfl) (by kernel_rfl) (by kernel_rfl) (fun Hq hq => Y.fieldAddr (hlg.upL hq (dl)).pt rfl Tryd.runUnderlying65 rfl rfl Tryd.sizeOf9 (by decide) rfl) (Wd.u rfl) rfl rfl hq1 ?_
  refine LH.take 7 (by kernel_rfl) rfl (by kernel_rfl) (by kernel_rfl) (by kernel_rfl) (fun Hq hq => Y.load1 ((hlg.upL hq (dl)).pt.drop 1) rfl Tryd.isAgg9 rfl) (Wd.u rfl) rfl rfl hq1 ?_
  refine LH.one (i := 8) (by kernel_rfl) ?_
  refine LO.z rfl (Z.litw _ ([(67 : UInt8)]) rfl inf23 rfl rfl rfl (by decide) (by decide) fB_len fB_one (rfl)) (Wd.u rfl) rfl rfl (fun v10 H10 r10 => ?_)
  obtain ⟨ow10, hs10, ob10, hH10⟩ := r10
  have hzs10 : H10.size = H0.size + 1 := by rw [hH10]; simp
  have dj2 : DL (H0.size + 1) K := DL.newK hf.bk
  have df3 := (DF.new (bf_mx.mono hm0.size) : DF _ (H0.size + 1))
  have dj4 : Dj (c + 1) (H0.size + 1) := Dj.new hc.lt
  have dj5 : Dj (lb + 1) (H0.size + 1) := Dj.new hlg.lt
  have nx6 : Nx 0 H0.size (H0.size + 1) := Nx.new hm0.size
  have nx7 : Nx 0 H0.size (H0.size + 1) := Nx.new hq1.size
  replace hf := hf.nw hs10
  replace mx := mx.nw hs10
  replace hc := hc.nw hs10
  replace hlg := hlg.nw hs10
  replace hm0 := hm0.trN hs10
  replace hq1 := hq1.trN hs10
  have hz1 := hs10.size
  obtain ⟨s10, rfl⟩ : ∃ s : SV, v10 = s.v := ⟨toSV v10, ow10.sv.symm⟩
  refine ⟨.inr hq1, LH.narrow (SH2 := fun Hq => Mo (Ms (K ++ [(H0.size + 1)])) H10 Hq) (fun Hq hq => hq1.trL hq (MIL.app (MIL.ofK (nx1) (by intro k hk; simp [hk])) (MIL.cons (MI.app MI.z (nx7) (Nat.le_refl _)) MIL.nil))) ?_⟩
  have hq1 : Mo (Ms (K ++ [(H0.size + 1)])) H10 H10 := Mo.refl _ _
  have nx8 := NxK.refl K H10.size
  have nx9 := Nx.refl (H0.size + 1) H10.size
  refine LH.one (i := 9) (by kernel_rfl) ?_
  -- call (*selvage/simfs.FS).Append
  refine LO.call rfl rfl Tryd.call34 rfl (Wd.u rfl) rfl rfl (append_ct mx_ K g b D p s10 [67] _ w0 _ hf mx (bf_mx.mono (by omega)) (dmx) ow10.rd (BF.of ow10.le) (DFL.of (dj2)) hl hB (by decide)) (fun v11 H11 r11 => ?_)
  have ql10 := hf.bk
  have ql11 := hc.lt
  have ql12 := hlg.lt
  have ql13 := ow10.le
  obtain ⟨K11, g11, rfl, hf, hkd11, hs11⟩ := r11
  have df14 := DFL.appK (dmx) (bf_mx.mono hm0.size) hkd11
  have dj15 : DL (c + 1) K11 := DL.appK (dc) ql11 hkd11
  have dj16 : DL (lb + 1) K11 := DL.appK (dl) ql12 hkd11
  have dj17 : DL (H0.size + 1) K11 := DL.appK (dj2) ql13 hkd11
  have nx18 : NxK K H0.size K11 := NxK.tr (nx_hm0_hf) hkd11 hm0.size
  have nx19 : NxK K H10.size K11 := NxK.tr (nx8) hkd11 hq1.size
  replace mx := mx.upL hs11 (dmx)
  replace hc := hc.upL hs11 (dc)
  replace hlg := hlg.upL hs11 (dl)
  replace ow10 := ow10.upL hs11 (dj2)
  replace hm0 := hm0.trL hs11 (MIL.ofK (nx_hm0_hf) (by intro k hk; simp [hk]))
  replace hq1 := hq1.trL hs11 (MIL.ofK (nx8) (by intro k hk; simp [hk]))
  have hz2 := hs11.size
  have hbk_hf := hf.bk
  refine ⟨.inr hq1, LH.narrow (SH2 := fun Hq => Mo (Ms (K11 ++ [(H0.size + 1)])) H11 Hq) (fun Hq hq => hq1.trL hq (MIL.app (MIL.ofK (nx19) (by intro k hk; simp [hk])) (MIL.cons (MI.app (MI.root (by simp)) (nx9) (Nat.le_refl _)) MIL.nil))) ?_⟩
  have hq1 : Mo (Ms (K11 ++ [(H0.size + 1)])) H11 H11 := Mo.refl _ _
  have nx20 := NxK.refl K11 H11.size
  have nx21 := Nx.refl (H0.size + 1) H11.size
  refine LH.take 10 (by kernel_rfl) rfl (by kernel_rfl) (by kernel_rfl) (by kernel_rfl) (fun Hq hq => Y.assign rfl rfl) (Wd.u rfl) rfl rfl hq1 ?_
  refine LH.done (by kernel_rfl) ?_
  refine hK2 _ _ ?_
  refine CW.ret (hret .ret (.inr rfl) _ _ _ (res1 rfl rfl) ?_)
  exact ⟨_, _, rfl, hf, nx18, hm0⟩

set_option maxHeartbeats 2000000 in
theorem cwrite_ct (mx_ : Int) (K : List Nat) (g : Gh) (b : Nat) (D : Dk) (c lb : Nat) (p : Pth) (n : Nat) (br : Bool) (c7 : Nat) (c3 : Nat) (s : SV) (l : List (SV × Rec)) (F : Nat → Prop) (w0 : World) (H0 : Heap)
    (hf : PDk K g H0 b D) (mx : MX mx_ H0) (bf_mx : BF (fun b => b = 0) H0.size) (dmx : DFL (fun b => b = 0) K) (hc : Var 41 H0 c [ptr lb]) (hlg : Var 65 H0 lb [ptr b, Str p, .int .i64 (n : Int), .bool br]) (dc : DL (c + 1) K) (dl : DL (lb + 1) K) (hc7 : Var 9 H0 c7 [Str (newP p)]) (d7 : DL (c7 + 1) K) (hc3 : Var 22 H0 c3 [s.v]) (d3 : DL (c3 + 1) K) (hr : Rd F H0 fP 1 s.v l) (bf_hr : BF F H0.size) (dfr : DFL F K) (hx : ∀ x ∈ l, Rd F H0 fB 1 x.1.v x.2) (bf_hx : BF F H0.size) (dfx : DFL F K) (hrl : ∀ x ∈ l, x.2.length ≤ 1048576) (hel : (encN 0 (recs l)).length ≤ 274877900000) (hl : p.length ≤ 4294960000) (hB : Bd 274877906944 D) :
    Ct Tryd.prog w0 45 #[ptr c, ptr c7, ptr c3] H0 (fun r H2 => ∃ K2 : List Nat, ∃ g2 : Gh, r = .int .i64 ((D.lay (newP p) ⟨false, encW (recs l)⟩).1 : Int) ∧ (PDk K2 g2 H2 b (D.lay (newP p) ⟨false, encW (recs l)⟩).2) ∧ (NxK K H0.size K2) ∧ Mo (Ms K) H0 H2) := by
  refine Ct.enter (args := [ptr c, ptr c7, ptr c3]) Tryd.func45 rfl rfl rfl ?_
  intro Q0 hret
  have hm0 : Mo (Ms K) H0 H0 := Mo.refl _ _
  have nx_hm0_hf := NxK.refl K H0.size
  have hbk_hf := hf.bk
  have nx_hm0_hc := Nx.refl (c + 1) H0.size
  have hlt_hc := hc.lt
  have nx_hm0_hlg := Nx.refl (lb + 1) H0.size
  have hlt_hlg := hlg.lt
  have nx_hm0_hc7 := Nx.refl (c7 + 1) H0.size
  have hlt_hc7 := hc7.lt
  have nx_hm0_hc3 := Nx.refl (c3 + 1) H0.size
  have hlt_hc3 := hc3.lt
  refine CW.seq (fun K1 hK1 hE1 => ?_)
  refine CW.region ?_
  refine LR.v (Y.assign rfl rfl) (Wd.u rfl) rfl rfl ?_
  refine LR.nil ?_
  refine hK1 _ _ ?_
  refine CW.seq (fun K2 hK2 hE2 => ?_)
  refine CW.region_any (fun Hq => Mo (Ms K) H0 Hq) [] rfl ?_
  have hq1 : Mo (Ms K) H0 H0 := Mo.refl _ _
  have nx1 := NxK.refl K H0.size
  refine LH.take 0 (by kernel_rfl) rfl (by kernel_rfl) (by kernel_rfl) (by kernel_rfl) (fun Hq hq => Y.load1 (hc.upL hq (dc)).pt rfl Tryd.isAgg41 rfl) (Wd.u rfl) rfl rfl hq1 ?_
  refine LH.take 1 (by kernel_rfl) rfl (by kernel_rfl) (by kernel_rfl) (by kernel_rfl) (fun Hq hq => Y.nilCheck rfl rfl) (Wd.u rfl) rfl rfl hq1 ?_
  refine LH.take 2 (by kernel_rfl) rfl (by kernel_rfl) (by kernel_rfl) (by kernel_rfl) (fun Hq hq => Y.fieldAddr (hlg.upL hq (dl)).pt rfl Tryd.runUnderlying65 rfl rfl Tryd.sizeOf38 (by decide) rfl) (Wd.u rfl) rfl rfl hq1 ?_
  refine LH.take 3 (by kernel_rfl) rfl (by kernel_rfl) (by kernel_rfl) (by kernel_rfl) (fun Hq hq => Y.load1 (hlg.upL hq (dl)).pt rfl Tryd.isAgg38 rfl) (Wd.u rfl) rfl rfl hq1 ?_
  refine LH.take 4 (by kernel_rfl) rfl (by kernel_rfl) (by kernel_rfl) (by kernel_rfl) (fun Hq hq => Y.load1 (hc7.upL hq (d7)).pt rfl Tryd.isAgg9 rfl) (Wd.u rfl) rfl rfl hq1 ?_
  refine LH.take 5 (by kernel_rfl) rfl (by kernel_rfl) (by kernel_rfl) (by kernel_rfl) (fun Hq hq => Y.load1 (hc3.upL hq (d3)).pt rfl Tryd.isAgg22 rfl) (Wd.u rfl) rfl rfl hq1 ?_
  refine LH.one (i := 6) (by kernel_rfl) ?_
  -- call selvage/wal.Encode
  refine LO.call rfl rfl Tryd.call11 rfl (Wd.u rfl) rfl rfl (encode_ct s l w0 _ hr.any (fun x h => (hx x h).any) hrl (by omega)) (fun v10 H10 r10 => ?_)
  obtain ⟨t10, k10, rfl, ow10, hk10, hs10⟩ := r10
  have dj2 : DL k10 K := DL.app2 (DL.zK) hf.bk hk10
  have df3 := DF.app (DF.z) (bf_mx.mono hm0.size) hk10
  have dj4 : Dj (c + 1) k10 := Dj.app (Dj.z) hc.lt hk10
  have dj5 : Dj (lb + 1) k10 := Dj.app (Dj.z) hlg.lt hk10
  have dj6 : Dj (c7 + 1) k10 := Dj.app (Dj.z) hc7.lt hk10
  have dj7 : Dj (c3 + 1) k10 := Dj.app (Dj.z) hc3.lt hk10
  have df8 := DF.app (DF.z) (bf_hr.mono hm0.size) hk10
  have df9 := DF.app (DF.z) (bf_hx.mono hm0.size) hk10
  have nx10 : Nx 0 H0.size k10 := Nx.tr (Nx.refl 0 _) hk10 hm0.size
  have nx11 : Nx 0 H0.size k10 := Nx.tr (Nx.refl 0 _) hk10 hq1.size
  replace hf := hf.nw hs10
  replace mx := mx.nw hs10
  replace hc := hc.nw hs10
  replace hlg := hlg.nw hs10
  replace hc7 := hc7.nw hs10
  replace hc3 := hc3.nw hs10
  replace hr := hr.nw hs10
  replace hx := fun x hx_ => (hx x hx_).nw hs10
  replace hm0 := hm0.trN hs10
  replace hq1 := hq1.trN hs10
  have hz1 := hs10.size
  have hle_ow10 := ow10.le
  refine ⟨.inr hq1, LH.narrow (SH2 := fun Hq => Mo (Ms (K ++ [k10])) H10 Hq) (fun Hq hq => hq1.trL hq (MIL.app (MIL.ofK (nx1) (by intro k hk; simp [hk])) (MIL.cons (MI.app MI.z (nx11) (Nat.le_refl _)) MIL.nil))) ?_⟩
  have hq1 : Mo (Ms (K ++ [k10])) H10 H10 := Mo.refl _ _
  have nx12 := NxK.refl K H10.size
  have nx13 := Nx.refl k10 H10.size
  refine LH.one (i := 7) (by kernel_rfl) ?_
  -- call (*selvage/simfs.FS).Write
  refine LO.call rfl rfl Tryd.call46 rfl (Wd.u rfl) rfl rfl (write_ct mx_ K g b D (newP p) t10 (encW (recs l)) _ w0 _ hf mx (bf_mx.mono (by omega)) (dmx) ow10.rd (BF.of ow10.le) (DFL.of (dj2)) (by rw [newP_len]; omega) hB (by unfold encW; rw [List.length_append]; have h8 : W8.length = 8 := rfl; omega)) (fun v11 H11 r11 => ?_)
  have ql14 := hf.bk
  have ql15 := hc.lt
  have ql16 := hlg.lt
  have ql17 := hc7.lt
  have ql18 := hc3.lt
  have ql19 := ow10.le
  obtain ⟨K11, g11, rfl, hf, hkd11, hs11⟩ := r11
  have df20 := DFL.appK (dmx) (bf_mx.mono hm0.size) hkd11
  have dj21 : DL (c + 1) K11 := DL.appK (dc) ql15 hkd11
  have dj22 : DL (lb + 1) K11 := DL.appK (dl) ql16 hkd11
  have dj23 : DL (c7 + 1) K11 := DL.appK (d7) ql17 hkd11
  have dj24 : DL (c3 + 1) K11 := DL.appK (d3) ql18 hkd11
  have df25 := DFL.appK (dfr) (bf_hr.mono hm0.size) hkd11
  have df26 := DFL.appK (dfx) (bf_hx.mono hm0.size) hkd11
  have dj27 : DL k10 K11 := DL.appK (dj2) ql19 hkd11
  have nx28 : NxK K H0.size K11 := NxK.tr (nx_hm0_hf) hkd11 hm0.size
  have nx29 : NxK K H10.size K11 := NxK.tr (nx12) hkd11 hq1.size
  replace mx := mx.upL hs11 (dmx)
  replace hc := hc.upL hs11 (dc)
  replace hlg := hlg.upL hs11 (dl)
  replace hc7 := hc7.upL hs11 (d7)
  replace hc3 := hc3.upL hs11 (d3)
  replace hr := hr.upL hs11 (dfr)
  replace hx := fun x hx_ => (hx x hx_).upL hs11 (dfx)
  replace ow10 := ow10.upL hs11 (dj2)
  replace hm0 := hm0.trL hs11 (MIL.ofK (nx_hm0_hf) (by intro k hk; simp [hk]))
  replace hq1 := hq1.trL hs11 (MIL.ofK (nx12) (by intro k hk; simp [hk]))
  have hz2 := hs11.size
  have hbk_hf := hf.bk
  refine ⟨.inr hq1, LH.narrow (SH2 := fun Hq => Mo (Ms (K11 ++ [k10])) H11 Hq) (fun Hq hq => hq1.trL hq (MIL.app (MIL.ofK (nx29) (by intro k hk; simp [hk])) (MIL.cons (MI.app (MI.root (by simp)) (nx13) (Nat.le_refl _)) MIL.nil))) ?_⟩
  have hq1 : Mo (Ms (K11 ++ [k10])) H11 H11 := Mo.refl _ _
  have nx30 := NxK.refl K11 H11.size
  have nx31 := Nx.refl k10 H11.size
  refine LH.take 8 (by kernel_rfl) rfl (by kernel_rfl) (by kernel_rfl) (by kernel_rfl) (fun Hq hq => Y.assign rfl rfl) (Wd.u rfl) rfl rfl hq1 ?_
  refine LH.done (by kernel_rfl) ?_
  refine hK2 _ _ ?_
  refine CW.ret (hret .ret (.inr rfl) _ _ _ (res1 rfl rfl) ?_)
  exact ⟨_, _, rfl, hf, nx28, hm0⟩

set_option maxHeartbeats 2000000 in
theorem csync_ct (mx_ : Int) (K : List Nat) (g : Gh) (b : Nat) (D : Dk) (c lb : Nat) (p : Pth) (n : Nat) (br : Bool) (c7 : Nat) (w0 : World) (H0 : Heap)
    (hf : PDk K g H0 b D) (mx : MX mx_ H0) (bf_mx : BF (fun b => b = 0) H0.size) (dmx : DFL (fun b => b = 0) K) (hc : Var 41 H0 c [ptr lb]) (hlg : Var 65 H0 lb [ptr b, Str p, .int .i64 (n : Int), .bool br]) (dc : DL (c + 1) K) (dl : DL (lb + 1) K) (hc7 : Var 9 H0 c7 [Str (newP p)]) (d7 : DL (c7 + 1) K) (hl : p.length ≤ 4294960000) (hB : Bd 274877906944 D) :
    Ct Tryd.prog w0 47 #[ptr c, ptr c7] H0 (fun r H2 => ∃ K2 : List Nat, ∃ g2 : Gh, r = .int .i64 ((D.sync (newP p)).1 : Int) ∧ (PDk K2 g2 H2 b (D.sync (newP p)).2) ∧ (NxK K H0.size K2) ∧ Mo (Ms K) H0 H2) := by
  refine Ct.enter (args := [ptr c, ptr c7]) Tryd.func47 rfl rfl rfl ?_
  intro Q0 hret
  have hm0 : Mo (Ms K) H0 H0 := Mo.refl _ _
  have nx_hm0_hf := NxK.refl K H0.size
  have hbk_hf := hf.bk
  have nx_hm0_hc := Nx.refl (c + 1) H0.size
  have hlt_hc := hc.lt
  have nx_hm0_hlg := Nx.refl (lb + 1) H0.size
  have hlt_hlg := hlg.lt
  have nx_hm0_hc7 := Nx.refl (c7 + 1) H0.size
  have hlt_hc7 := hc7.lt
  refine CW.seq (fun K1 hK1 hE1 => ?_)
  refine CW.region ?_
  refine LR.v (Y.assign rfl rfl) (Wd.u rfl) rfl rfl ?_
  refine LR.nil ?_
  refine hK1 _ _ ?_
  refine CW.seq (fun K2 hK2 hE2 => ?_)
  refine CW.region_tail 5 rfl (by kernel_rfl) (fun T1 hT1 => ?_)
  refine LR.v (Y.load1 hc.pt rfl Tryd.isAgg41 rfl) (Wd.u rfl) rfl rfl ?_
  refine LR.v (Y.nilCheck rfl rfl) (Wd.u rfl) rfl rfl ?_
  refine LR.v (Y.fieldAddr hlg.pt rfl Tryd.runUnderlying65 rfl rfl Tryd.sizeOf38 (by decide) rfl) (Wd.u rfl) rfl rfl ?_
  refine LR.v (Y.load1 hlg.pt rfl Tryd.isAgg38 rfl) (Wd.u rfl) rfl rfl ?_
  refine LR.v (Y.load1 hc7.pt rfl Tryd.isAgg9 rfl) (Wd.u rfl) rfl rfl ?_
  refine LR.nil (hT1 _ ?_)
  -- call (*selvage/simfs.FS).Sync
  refine LR.call rfl Tryd.call31 rfl (Wd.u rfl) rfl rfl (sync_ct mx_ K g b D (newP p) w0 _ hf mx (bf_mx.mono (by omega)) (dmx) (by rw [newP_len]; omega) hB) (fun v8 H8 r8 => ?_)
  have ql1 := hf.bk
  have ql2 := hc.lt
  have ql3 := hlg.lt
  have ql4 := hc7.lt
  obtain ⟨K8, g8, rfl, hf, hkd8, hs8⟩ := r8
  have df5 := DFL.appK (dmx) (bf_mx.mono hm0.size) hkd8
  have dj6 : DL (c + 1) K8 := DL.appK (dc) ql2 hkd8
  have dj7 : DL (lb + 1) K8 := DL.appK (dl) ql3 hkd8
  have dj8 : DL (c7 + 1) K8 := DL.appK (d7) ql4 hkd8
  have nx9 : NxK K H0.size K8 := NxK.tr (nx_hm0_hf) hkd8 hm0.size
  replace mx := mx.upL hs8 (dmx)
  replace hc := hc.upL hs8 (dc)
  replace hlg := hlg.upL hs8 (dl)
  replace hc7 := hc7.upL hs8 (d7)
  replace hm0 := hm0.trL hs8 (MIL.ofK (nx_hm0_hf) (by intro k hk; simp [hk]))
  have hz1 := hs8.size
  have hbk_hf := hf.bk
  refine LR.v (Y.assign rfl rfl) (Wd.u rfl) rfl rfl ?_
  refine LR.nil ?_
  refine hK2 _ _ ?_
  refine CW.ret (hret .ret (.inr rfl) _ _ _ (res1 rfl rfl) ?_)
  exact ⟨_, _, rfl, hf, nx9, hm0⟩

set_option maxHeartbeats 2000000 in
theorem cren_ct (mx_ : Int) (K : List Nat) (g : Gh) (b : Nat) (D : Dk) (c lb : Nat) (p : Pth) (n : Nat) (br : Bool) (c7 : Nat) (w0 : World) (H0 : Heap)
    (hf : PDk K g H0 b D) (mx : MX mx_ H0) (bf_mx : BF (fun b => b = 0) H0.size) (dmx : DFL (fun b => b = 0) K) (hc : Var 41 H0 c [ptr lb]) (hlg : Var 65 H0 lb [ptr b, Str p, .int .i64 (n : Int), .bool br]) (dc : DL (c + 1) K) (dl : DL (lb + 1) K) (hc7 : Var 9 H0 c7 [Str (newP p)]) (d7 : DL (c7 + 1) K) (hl : p.length ≤ 4294960000) (hB : Bd 274877906944 D) :
    Ct Tryd.prog w0 48 #[ptr c, ptr c7] H0 (fun r H2 => ∃ K2 : List Nat, ∃ g2 : Gh, r = .int .i64 ((D.rename (newP p) p).1 : Int) ∧ (PDk K2 g2 H2 b (D.rename (newP p) p).2) ∧ (NxK K H0.size K2) ∧ Mo (Ms K) H0 H2) := by
  refine Ct.enter (args := [ptr c, ptr c7]) Tryd.func48 rfl rfl rfl ?_
  intro Q0 hret
  have hm0 : Mo (Ms K) H0 H0 := Mo.refl _ _
  have nx_hm0_hf := NxK.refl K H0.size
  have hbk_hf := hf.bk
  have nx_hm0_hc := Nx.refl (c + 1) H0.size
  have hlt_hc := hc.lt
  have nx_hm0_hlg := Nx.refl (lb + 1) H0.size
  have hlt_hlg := hlg.lt
  have nx_hm0_hc7 := Nx.refl (c7 + 1) H0.size
  have hlt_hc7 := hc7.lt
  refine CW.seq (fun K1 hK1 hE1 => ?_)
  refine CW.region ?_
  refine LR.v (Y.assign rfl rfl) (Wd.u rfl) rfl rfl ?_
  refine LR.nil ?_
  refine hK1 _ _ ?_
  refine CW.seq (fun K2 hK2 hE2 => ?_)
  refine CW.region_tail 9 rfl (by kernel_rfl) (fun T1 hT1 => ?_)
  refine LR.v (Y.load1 hc.pt rfl Tryd.isAgg41 rfl) (Wd.u rfl) rfl rfl ?_
  refine LR.v (Y.nilCheck rfl rfl) (Wd.u rfl) rfl rfl ?_
  refine LR.v (Y.fieldAddr hlg.pt rfl Tryd.runUnderlying65 rfl rfl Tryd.sizeOf38 (by decide) rfl) (Wd.u rfl) rfl rfl ?_
  refine LR.v (Y.load1 hlg.pt rfl Tryd.isAgg38 rfl) (Wd.u rfl) rfl rfl ?_
  refine LR.v (Y.load1 hc7.pt rfl Tryd.isAgg9 rfl) (Wd.u rfl) rfl rfl ?_
  refine LR.v (Y.load1 hc.pt rfl Tryd.isAgg41 rfl) (Wd.u rfl) rfl rfl ?_
  refine LR.v (Y.nilCheck rfl rfl) (Wd.u rfl) rfl rfl ?_
  refine LR.v (Y.fieldAddr hlg.pt rfl Tryd.runUnderlying65 rfl rfl Tryd.sizeOf9 (by decide) rfl) (Wd.u rfl) rfl rfl ?_
  refine LR.v (Y.load1 (hlg.pt.drop 1) rfl Tryd.isAgg9 rfl) (Wd.u rfl) rfl rfl ?_
  refine LR.nil (hT1 _ ?_)
  -- call (*selvage/simfs.FS).Rename
  refine LR.call rfl Tryd.call49 rfl (Wd.u rfl) rfl rfl (rename_ct mx_ K g b D (newP p) p w0 _ hf mx (bf_mx.mono (by omega)) (dmx) (by rw [newP_len]; omega) (by omega) hB) (fun v12 H12 r12 => ?_)
  have ql1 := hf.bk
  have ql2 := hc.lt
  have ql3 := hlg.lt
  have ql4 := hc7.lt
  obtain ⟨K12, g12, rfl, hf, hkd12, hs12⟩ := r12
  have df5 := DFL.appK (dmx) (bf_mx.mono hm0.size) hkd12
  have dj6 : DL (c + 1) K12 := DL.appK (dc) ql2 hkd12
  have dj7 : DL (lb + 1) K12 := DL.appK (dl) ql3 hkd12
  have dj8 : DL (c7 + 1) K12 := DL.appK (d7) ql4 hkd12
  have nx9 : NxK K H0.size K12 := NxK.tr (nx_hm0_hf) hkd12 hm0.size
  replace mx := mx.upL hs12 (dmx)
  replace hc := hc.upL hs12 (dc)
  replace hlg := hlg.upL hs12 (dl)
  replace hc7 := hc7.upL hs12 (d7)
  replace hm0 := hm0.trL hs12 (MIL.ofK (nx_hm0_hf) (by intro k hk; simp [hk]))
  have hz1 := hs12.size
  have hbk_hf := hf.bk
  refine LR.v (Y.assign rfl rfl) (Wd.u rfl) rfl rfl ?_
  refine LR.nil ?_
  refine hK2 _ _ ?_
  refine CW.ret (hret .ret (.inr rfl) _ _ _ (res1 rfl rfl) ?_)
  exact ⟨_, _, rfl, hf, nx9, hm0⟩

set_option maxHeartbeats 2000000 in
theorem csd_ct (mx_ : Int) (K : List Nat) (g : Gh) (b : Nat) (D : Dk) (c lb : Nat) (p : Pth) (n : Nat) (br : Bool) (w0 : World) (H0 : Heap)
    (hf : PDk K g H0 b D) (mx : MX mx_ H0) (bf_mx : BF (fun b => b = 0) H0.size) (dmx : DFL (fun b => b = 0) K) (hc : Var 41 H0 c [ptr lb]) (hlg : Var 65 H0 lb [ptr b, Str p, .int .i64 (n : Int), .bool br]) (dc : DL (c + 1) K) (dl : DL (lb + 1) K) (hl : p.length ≤ 4294960000) (hB : Bd 274877906944 D) :
    Ct Tryd.prog w0 50 #[ptr c] H0 (fun r H2 => ∃ K2 : List Nat, ∃ g2 : Gh, r = .int .i64 ((D.syncDir (dirP p)).1 : Int) ∧ (PDk K2 g2 H2 b (D.syncDir (dirP p)).2) ∧ (NxK K H0.size K2) ∧ Mo (Ms K) H0 H2) := by
  refine Ct.enter (args := [ptr c]) Tryd.func50 rfl rfl rfl ?_
  intro Q0 hret
  have hm0 : Mo (Ms K) H0 H0 := Mo.refl _ _
  have nx_hm0_hf := NxK.refl K H0.size
  have hbk_hf := hf.bk
  have nx_hm0_hc := Nx.refl (c + 1) H0.size
  have hlt_hc := hc.lt
  have nx_hm0_hlg := Nx.refl (lb + 1) H0.size
  have hlt_hlg := hlg.lt
  refine CW.seq (fun K1 hK1 hE1 => ?_)
  refine CW.region ?_
  refine LR.v (Y.assign rfl rfl) (Wd.u rfl) rfl rfl ?_
  refine LR.nil ?_
  refine hK1 _ _ ?_
  refine CW.seq (fun K2 hK2 hE2 => ?_)
  refine CW.region_any (fun Hq => Mo (Ms K) H0 Hq) [] rfl ?_
  have hq1 : Mo (Ms K) H0 H0 := Mo.refl _ _
  have nx1 := NxK.refl K H0.size
  refine LH.take 0 (by kernel_rfl) rfl (by kernel_rfl) (by kernel_rfl) (by kernel_rfl) (fun Hq hq => Y.load1 (hc.upL hq (dc)).pt rfl Tryd.isAgg41 rfl) (Wd.u rfl) rfl rfl hq1 ?_
  refine LH.take 1 (by kernel_rfl) rfl (by kernel_rfl) (by kernel_rfl) (by kernel_rfl) (fun Hq hq => Y.nilCheck rfl rfl) (Wd.u rfl) rfl rfl hq1 ?_
  refine LH.take 2 (by kernel_rfl) rfl (by kernel_rfl) (by kernel_rfl) (by kernel_rfl) (fun Hq hq => Y.fieldAddr (hlg.upL hq (dl)).pt rfl Tryd.runUnderlying65 rfl rfl Tryd.sizeOf38 (by decide) rfl) (Wd.u rfl) rfl rfl hq1 ?_
  refine LH.take 3 (by kernel_rfl) rfl (by kernel_rfl) (by kernel_rfl) (by kernel_rfl) (fun Hq hq => Y.load1 (hlg.upL hq (dl)).pt rfl Tryd.isAgg38 rfl) (Wd.u rfl) rfl rfl hq1 ?_
  refine LH.take 4 (by kernel_rfl) rfl (by kernel_rfl) (by kernel_rfl) (by kernel_rfl) (fun Hq hq => Y.load1 (hc.upL hq (dc)).pt rfl Tryd.isAgg41 rfl) (Wd.u rfl) rfl rfl hq1 ?_
  refine LH.take 5 (by kernel_rfl) rfl (by kernel_rfl) (by kernel_rfl) (by kernel_rfl) (fun Hq hq => Y.nilCheck rfl rfl) (Wd.u rfl) rfl rfl hq1 ?_
  refine LH.take 6 (by kernel_rfl) rfl (by kernel_rfl) (by kernel_rfl) (by kernel_rfl) (fun Hq hq => Y.fieldAddr (hlg.upL hq (dl)).pt rfl Tryd.runUnderlying65 rfl rfl Tryd.sizeOf9 (by decide) rfl) (Wd.u rfl) rfl rfl hq1 ?_
  refine LH.take 7 (by kernel_rfl) rfl (by kernel_rfl) (by kernel_rfl) (by kernel_rfl) (fun Hq hq => Y.load1 ((hlg.upL hq (dl)).pt.drop 1) rfl Tryd.isAgg9 rfl) (Wd.u rfl) rfl rfl hq1 ?_
  refine LH.one (i := 8) (by kernel_rfl) ?_
  -- call selvage/simfs.Dir
  refine LO.call rfl rfl Tryd.call52 rfl (Wd.u rfl) rfl rfl (dir_ct mx_ p w0 _ mx (bf_mx.mono (by omega)) (by omega)) (fun v10 H10 r10 => ?_)
  obtain ⟨rfl, hs10⟩ := r10
  replace hf := hf.nw hs10
  replace mx := mx.nw hs10
  replace hc := hc.nw hs10
  replace hlg := hlg.nw hs10
  replace hm0 := hm0.trN hs10
  replace hq1 := hq1.trN hs10
  have hz1 := hs10.size
  refine ⟨.inr hq1, LH.narrow (SH2 := fun Hq => Mo (Ms K) H10 Hq) (fun Hq hq => hq1.trL hq (MIL.ofK (nx1) (by intro k hk; simp [hk]))) ?_⟩
  have hq1 : Mo (Ms K) H10 H10 := Mo.refl _ _
  have nx2 := NxK.refl K H10.size
  refine LH.one (i := 9) (by kernel_rfl) ?_
  -- call (*selvage/simfs.FS).SyncDir
  refine LO.call rfl rfl Tryd.call51 rfl (Wd.u rfl) rfl rfl (syncDir_ct mx_ K g b D (dirP p) w0 _ hf mx (bf_mx.mono (by omega)) (dmx) (by have := dirP_le p; omega) hB) (fun v11 H11 r11 => ?_)
  have ql3 := hf.bk
  have ql4 := hc.lt
  have ql5 := hlg.lt
  obtain ⟨K11, g11, rfl, hf, hkd11, hs11⟩ := r11
  have df6 := DFL.appK (dmx) (bf_mx.mono hm0.size) hkd11
  have dj7 : DL (c + 1) K11 := DL.appK (dc) ql4 hkd11
  have dj8 : DL (lb + 1) K11 := DL.appK (dl) ql5 hkd11
  have nx9 : NxK K H0.size K11 := NxK.tr (nx_hm0_hf) hkd11 hm0.size
  have nx10 : NxK K H10.size K11 := NxK.tr (nx2) hkd11 hq1.size
  replace mx := mx.upL hs11 (dmx)
  replace hc := hc.upL hs11 (dc)
  replace hlg := hlg.upL hs11 (dl)
  replace hm0 := hm0.trL hs11 (MIL.ofK (nx_hm0_hf) (by intro k hk; simp [hk]))
  replace hq1 := hq1.trL hs11 (MIL.ofK (nx2) (by intro k hk; simp [hk]))
  have hz2 := hs11.size
  have hbk_hf := hf.bk
  refine ⟨.inr hq1, LH.narrow (SH2 := fun Hq => Mo (Ms K11) H11 Hq) (fun Hq hq => hq1.trL hq (MIL.ofK (nx10) (by intro k hk; simp [hk]))) ?_⟩
  have hq1 : Mo (Ms K11) H11 H11 := Mo.refl _ _
  have nx11 := NxK.refl K11 H11.size
  refine LH.take 10 (by kernel_rfl) rfl (by kernel_rfl) (by kernel_rfl) (by kernel_rfl) (fun Hq hq => Y.assign rfl rfl) (Wd.u rfl) rfl rfl hq1 ?_
  refine LH.done (by kernel_rfl) ?_
  refine hK2 _ _ ?_
  refine CW.ret (hret .ret (.inr rfl) _ _ _ (res1 rfl rfl) ?_)
  exact ⟨_, _, rfl, hf, nx9, hm0⟩

end Go.Proofs.YtdliddjkacbggaaDoor.WalD
/-
  A journal on a disk: making it anew, putting a record behind the others.
-/
namespace Go.Proofs.YtdliddjkacbggaaDoor.WalE
open Go.Proofs.YtdliddjkacbggaaDoor.E Go.RowKit Go.Proofs.YtdliddjkacbggaaDoor.SimA Go.Proofs.YtdliddjkacbggaaDoor.SimB Go.Proofs.YtdliddjkacbggaaDoor.SimC Go.Proofs.YtdliddjkacbggaaDoor.SimD Go.Proofs.YtdliddjkacbggaaDoor.SimE Go.Proofs.YtdliddjkacbggaaDoor.SimF Go.Proofs.YtdliddjkacbggaaDoor.SimG Go.Proofs.YtdliddjkacbggaaDoor.SimH Go.Proofs.YtdliddjkacbggaaDoor.SimI Go.Proofs.YtdliddjkacbggaaDoor.SimQ Go.Proofs.YtdliddjkacbggaaDoor.SimR Go.Proofs.YtdliddjkacbggaaDoor.WalA Go.Proofs.YtdliddjkacbggaaDoor.WalB Go.Proofs.YtdliddjkacbggaaDoor.WalC Go.Proofs.YtdliddjkacbggaaDoor.WalD
set_option maxRecDepth 20000
set_option linter.unusedVariables false
set_option linter.unusedSimpArgs false
set_option linter.unusedSectionVars false
set_option maxRecDepth 100000 in
theorem inf90 : Inf Tryd.prog 90 67 1 8 := ⟨Tryd.underlying90, _, _, rfl, rfl, rfl, rfl, rfl⟩

section
variable {w0 : World} {K : List Nat} {H : Heap} {mx_ : Int} {b c lb n c3 c7 N : Nat} {p : Pth} {br : Bool} {s : SV} {F : Nat → Prop} {D : Dk}
theorem ck_steps {l : List (SV × Rec)} (hS : LgS K H mx_ b c lb p n br) (h7 : VaS K H 9 c7 [Str (newP p)]) (h3 : VaS K H 22 c3 [s.v]) (hr : RwS K F H fP s.v l) (hx : ∀ x ∈ l, Rd F H fB 1 x.1.v x.2)
    (hrl : ∀ x ∈ l, x.2.length ≤ 1048576) (hel : (encN 0 (recs l)).length ≤ 274877900000) (hl : p.length ≤ 4294960000) (hB : Bs N D) (hN : N + 4 * ((encW (recs l)).length + 20) ≤ 536870912) :
    ∀ (i : Nat) (h : i < ([(45, [ptr c, ptr c7, ptr c3]), (47, [ptr c, ptr c7]), (48, [ptr c, ptr c7]), (50, [ptr c])] : List FnV).length) (K' : List Nat) (g' : Gh) (H' : Heap), PDk K' g' H' b (runD ((frS p (recs l)).take i) D).2 → NxK K H.size K' → Mo (Ms K) H H' →
      CloD w0 b (stp (frS p (recs l)) i) (.func (.func ([(45, [ptr c, ptr c7, ptr c3]), (47, [ptr c, ptr c7]), (48, [ptr c, ptr c7]), (50, [ptr c])] : List FnV)[i].1) #[] ([(45, [ptr c, ptr c7, ptr c3]), (47, [ptr c, ptr c7]), (48, [ptr c, ptr c7]), (50, [ptr c])] : List FnV)[i].2.toArray) K' H' (runD ((frS p (recs l)).take i) D).2 := by
  intro i hi K' g' H' hf hK hm
  have hB2 : Bd 274877906944 (runD ((frS p (recs l)).take i) D).2 := (bs_runT i (frS_bs p (recs l)) hB).bd (by have : (frS p (recs l)).length = 4 := rfl; rw [this]; omega)
  have hS := hS.up hm hK
  have h7 := h7.up hm hK
  have h3 := h3.up hm hK
  have hx2 : ∀ x ∈ l, Rd F H' fB 1 x.1.v x.2 := fun x h => (hx x h).upL hm hr.df
  have hr := hr.up hm hK
  match i, hi with
  | 0, _ => exact Clo.of (caps := [ptr c, ptr c7, ptr c3]) (args := []) Tryd.call45 (cwrite_ct mx_ K' g' b _ c lb p n br c7 c3 s l F w0 _ hf hS.mx hS.bmx hS.dmx hS.cv hS.lg hS.dc hS.dl h7.v h7.d h3.v h3.d hr.rd hr.bf hr.df hx2 hr.bf hr.df hrl hel hl hB2)
  | 1, _ => exact Clo.of (caps := [ptr c, ptr c7]) (args := []) Tryd.call47 (csync_ct mx_ K' g' b _ c lb p n br c7 w0 _ hf hS.mx hS.bmx hS.dmx hS.cv hS.lg hS.dc hS.dl h7.v h7.d hl hB2)
  | 2, _ => exact Clo.of (caps := [ptr c, ptr c7]) (args := []) Tryd.call48 (cren_ct mx_ K' g' b _ c lb p n br c7 w0 _ hf hS.mx hS.bmx hS.dmx hS.cv hS.lg hS.dc hS.dl h7.v h7.d hl hB2)
  | 3, _ => exact Clo.of (caps := [ptr c]) (args := []) Tryd.call50 (csd_ct mx_ K' g' b _ c lb p n br w0 _ hf hS.mx hS.bmx hS.dmx hS.cv hS.lg hS.dc hS.dl hl hB2)
theorem ap_steps {rc : Rec} (hS : LgS K H mx_ b c lb p n br) (h3 : VaS K H 23 c3 [s.v]) (hr : RwS K F H fB s.v rc) (hrl : rc.length ≤ 1048576) (hl : p.length ≤ 4294960000) (hB : Bs N D) (hN : N + 4 * (rc.length + 20) ≤ 536870912) :
    ∀ (i : Nat) (h : i < ([(33, [ptr c, ptr c3]), (30, [ptr c]), (35, [ptr c]), (30, [ptr c])] : List FnV).length) (K' : List Nat) (g' : Gh) (H' : Heap), PDk K' g' H' b (runD ((apS p n rc).take i) D).2 → NxK K H.size K' → Mo (Ms K) H H' →
      CloD w0 b (stp (apS p n rc) i) (.func (.func ([(33, [ptr c, ptr c3]), (30, [ptr c]), (35, [ptr c]), (30, [ptr c])] : List FnV)[i].1) #[] ([(33, [ptr c, ptr c3]), (30, [ptr c]), (35, [ptr c]), (30, [ptr c])] : List FnV)[i].2.toArray) K' H' (runD ((apS p n rc).take i) D).2 := by
  intro i hi K' g' H' hf hK hm
  have hB2 : Bd 274877906944 (runD ((apS p n rc).take i) D).2 := (bs_runT i (apS_bs p n rc) hB).bd (by have : (apS p n rc).length = 4 := rfl; rw [this]; omega)
  have hS := hS.up hm hK
  have h3 := h3.up hm hK
  have hr := hr.up hm hK
  match i, hi with
  | 0, _ => exact Clo.of (caps := [ptr c, ptr c3]) (args := []) Tryd.call33 (alay_ct mx_ K' g' b _ c lb p n br c3 s rc F w0 _ hf hS.mx hS.bmx hS.dmx hS.cv hS.lg hS.dc hS.dl h3.v h3.d hr.rd hr.bf hr.df (by omega) (by omega) hB2)
  | 1, _ => exact Clo.of (caps := [ptr c]) (args := []) Tryd.call30 (async_ct mx_ K' g' b _ c lb p n br w0 _ hf hS.mx hS.bmx hS.dmx hS.cv hS.lg hS.dc hS.dl (by omega) hB2)
  | 2, _ => exact Clo.of (caps := [ptr c]) (args := []) Tryd.call35 (amark_ct mx_ K' g' b _ c lb p n br w0 _ hf hS.mx hS.bmx hS.dmx hS.cv hS.lg hS.dc hS.dl (by omega) hB2)
  | 3, _ => exact Clo.of (caps := [ptr c]) (args := []) Tryd.call30 (async_ct mx_ K' g' b _ c lb p n br w0 _ hf hS.mx hS.bmx hS.dmx hS.cv hS.lg hS.dc hS.dl (by omega) hB2)
end
theorem encN_parL_le (b : List UInt8) : (encN 0 (parL b)).length ≤ b.length ∧ (encW (parL b)).length ≤ b.length + 8 := by
  by_cases h : parE b = 0
  · obtain ⟨t, e, _⟩ := parL_pre h
    have h2 := congrArg List.length e
    rw [List.length_append] at h2
    unfold encW at h2 ⊢
    rw [List.length_append] at h2 ⊢
    omega
  · have : parL b = [] := by unfold parE at h; unfold parL; split at h; exact absurd rfl h; rename_i h8; rw [if_neg h8]
    rw [this]; simp [encN, encW, W8]
theorem encN_sub (l : List Rec) (n : Nat) : (encN 0 (l.take n)).length ≤ (encN 0 l).length := by
  conv => rhs; rw [← List.take_append_drop n l, encN_app]
  rw [List.length_append]; omega
def mendD (D : Dk) (p : Pth) (n : Nat) : Nat × Dk := if D.readE p ≠ 0 then (D.readE p, D) else if parE (D.readL p) ≠ 0 then (parE (D.readL p), D) else freshD D p ((parL (D.readL p)).take n)
def mendN (D : Dk) (p : Pth) (n : Nat) : Nat := ((parL (D.readL p)).take n).length
def lgN (e m n : Nat) : Nat := if e = 0 then m else n
def lgB (e : Nat) (br : Bool) : Bool := if e = 0 then false else br
/-- what is done ahead of an append -/
def preD (D : Dk) (p : Pth) (n : Nat) (br : Bool) : Nat × Nat × Dk := if br = true then ((mendD D p n).1, mendN D p n, (mendD D p n).2) else (0, n, D)
/-- an append: the error, how many there are, is it broken, the disk -/
def appD (D : Dk) (p : Pth) (n : Nat) (br : Bool) (r : Rec) : Nat × Nat × Bool × Dk :=
  if (preD D p n br).1 ≠ 0 then ((preD D p n br).1, n, br, (preD D p n br).2.2)
  else
    let q := runD (apS p (preD D p n br).2.1 r) (preD D p n br).2.2
    (q.1, if q.1 = 0 then (preD D p n br).2.1 + 1 else (preD D p n br).2.1, if q.1 = 0 then false else true, q.2)
theorem bs_mend {N : Nat} {D : Dk} (h : Bs N D) (p : Pth) (n : Nat) : Bs (N + 4 * (N + 28)) (mendD D p n).2 := by
  unfold mendD; split
  · exact h.mono (by omega)
  · split
    · exact h.mono (by omega)
    · refine (bs_fresh h p _).mono ?_
      have h1 := (encN_parL_le (D.readL p)).1
      have h2 := encN_sub (parL (D.readL p)) n
      have h3 : (D.readL p).length ≤ N := by
        unfold Dk.readL Dk.wasL; split
        · split
          · exact (h.f _).1
          · exact Nat.zero_le _
        · exact Nat.zero_le _
      have h8 : W8.length = 8 := rfl
      unfold encW; rw [List.length_append]; omega
theorem readL_bd {N : Nat} {D : Dk} (h : Bs N D) (p : Pth) : (D.readL p).length ≤ N := by
  unfold Dk.readL Dk.wasL; split
  · split
    · exact (h.f _).1
    · exact Nat.zero_le _
  · exact Nat.zero_le _
theorem bs_app {N : Nat} {D : Dk} (h : Bs N D) (p : Pth) (n : Nat) (br : Bool) (r : Rec) : Bs (N + 4 * (N + 28) + 4 * (r.length + 20)) (appD D p n br r).2.2.2 := by
  have h1 : Bs (N + 4 * (N + 28)) (preD D p n br).2.2 := by
    unfold preD; split
    · exact bs_mend h p n
    · exact h.mono (by omega)
  unfold appD; split
  · exact h1.mono (by omega)
  · exact (bs_run (apS_bs p _ r) h1).mono (by simp [apS]; omega)

set_option maxHeartbeats 4000000 in
theorem ckpt_ct (mx_ : Int) (K : List Nat) (g : Gh) (b : Nat) (D : Dk) (lb : Nat) (p : Pth) (n : Nat) (br : Bool) (s : SV) (l : List (SV × Rec)) (F : Nat → Prop) (N : Nat) (w0 : World) (H0 : Heap)
    (hf : PDk K g H0 b D) (mx : MX mx_ H0) (bf_mx : BF (fun b => b = 0) H0.size) (dmx : DFL (fun b => b = 0) K) (hlg : Var 65 H0 lb [ptr b, Str p, .int .i64 (n : Int), .bool br]) (dl : DL (lb + 1) K) (dmv : DF (fun b => b = 0) (lb + 1)) (hr : Rd F H0 fP 1 s.v l) (bf_hr : BF F H0.size) (dfr : DFL F K) (hx : ∀ x ∈ l, Rd F H0 fB 1 x.1.v x.2) (bf_hx : BF F H0.size) (dfx : DFL F K) (hrl : ∀ x ∈ l, x.2.length ≤ 1048576) (hel : (encN 0 (recs l)).length ≤ 274877900000) (dlr : DF F (lb + 1)) (dlx : DF F (lb + 1)) (hl : p.length ≤ 4294960000) (hB : Bs N D) (hN : N + 4 * ((encW (recs l)).length + 20) ≤ 536870912) (hml : l.length ≤ 1073741824) :
    Ct Tryd.prog w0 28 #[ptr lb, s.v] H0 (fun r H2 => ∃ K2 : List Nat, ∃ g2 : Gh, r = .int .i64 ((freshD D p (recs l)).1 : Int) ∧ (PDk K2 g2 H2 b (freshD D p (recs l)).2) ∧ (NxK K H0.size K2) ∧ (Var 65 H2 lb [ptr b, Str p, .int .i64 (lgN (freshD D p (recs l)).1 l.length n : Int), .bool (lgB (freshD D p (recs l)).1 br)]) ∧ (DL (lb + 1) K2) ∧ Mo (Ms (K ++ [(lb + 1)])) H0 H2) := by
  refine Ct.enter (args := [ptr lb, s.v]) Tryd.func28 rfl rfl rfl ?_
  intro Q0 hret
  have hm0 : Mo (Ms (K ++ [(lb + 1)])) H0 H0 := Mo.refl _ _
  have nx_hm0_hf := NxK.refl K H0.size
  have hbk_hf := hf.bk
  have nx_hm0_hlg := Nx.refl (lb + 1) H0.size
  have hlt_hlg := hlg.lt
  refine CW.seq (fun K1 hK1 hE1 => ?_)
  refine CW.region ?_
  refine LR.z (Z.boxv1 rfl rfl (rfl)) (Wd.u rfl) rfl rfl (fun v2 H2 r2 => ?_)
  obtain ⟨rfl, hc2, hs2, ob2, hH2⟩ := r2
  have hzs2 : H2.size = H0.size + 1 := by rw [hH2]; simp
  have dj1 : DL (H0.size + 1) K := DL.newK hf.bk
  have df2 := (DF.new (bf_mx.mono hm0.size) : DF _ (H0.size + 1))
  have dj3 : Dj (lb + 1) (H0.size + 1) := Dj.new hlg.lt
  have df4 := (DF.new (bf_hr.mono hm0.size) : DF _ (H0.size + 1))
  have df5 := (DF.new (bf_hx.mono hm0.size) : DF _ (H0.size + 1))
  have nx6 : Nx 0 H0.size (H0.size + 1) := Nx.new hm0.size
  replace hf := hf.nw hs2
  replace mx := mx.nw hs2
  replace hlg := hlg.nw hs2
  replace hr := hr.nw hs2
  replace hx := fun x hx_ => (hx x hx_).nw hs2
  replace hm0 := hm0.trN hs2
  have hz1 := hs2.size
  replace hc2 : Var 41 H2 H0.size ([ptr lb]) := hc2
  refine LR.z (Z.boxv1 rfl rfl ((hr).oneCell)) (Wd.u rfl) rfl rfl (fun v3 H3 r3 => ?_)
  obtain ⟨rfl, hc3, hs3, ob3, hH3⟩ := r3
  have hzs3 : H3.size = H2.size + 1 := by rw [hH3]; simp
  have dj7 : DL (H2.size + 1) K := DL.newK hf.bk
  have df8 := (DF.new (bf_mx.mono hm0.size) : DF _ (H2.size + 1))
  have dj9 : Dj (lb + 1) (H2.size + 1) := Dj.new hlg.lt
  have df10 := (DF.new (bf_hr.mono hm0.size) : DF _ (H2.size + 1))
  have df11 := (DF.new (bf_hx.mono hm0.size) : DF _ (H2.size + 1))
  have dj12 : Dj (H0.size + 1) (H2.size + 1) := Dj.new hc2.lt
  have nx13 : Nx 0 H0.size (H2.size + 1) := Nx.new hm0.size
  replace hf := hf.nw hs3
  replace mx := mx.nw hs3
  replace hlg := hlg.nw hs3
  replace hr := hr.nw hs3
  replace hx := fun x hx_ => (hx x hx_).nw hs3
  replace hc2 := hc2.nw hs3
  replace hm0 := hm0.trN hs3
  have hz2 := hs3.size
  replace hc3 : Var 22 H3 H2.size ([s.v]) := hc3
  refine LR.v (Y.assign rfl rfl) (Wd.u rfl) rfl rfl ?_
  refine LR.nil ?_
  refine hK1 _ _ ?_
  refine CW.seq (fun K2 hK2 hE2 => ?_)
  refine CW.seq (fun K3 hK3 hE3 => ?_)
  refine CW.region ?_
  refine LR.v (Y.load1 hc3.pt rfl Tryd.isAgg22 rfl) (Wd.u rfl) rfl rfl ?_
  refine LR.v (Y.len hr rfl Tryd.runUnderlying22 rfl) (Wd.u rfl) rfl rfl ?_
  refine LR.v (Y.move rfl rfl) (Wd.u rfl) rfl rfl ?_
  refine LR.nil ?_
  refine hK3 _ _ ?_
  refine CW.block (fun K4 hK4 hX4 hE4 => ?_)
  refine CW.loop (fun (i : (Nat)) => [(2, .pointer (some ⟨H0.size, 0, none⟩)), (3, .pointer (some ⟨H2.size, 0, none⟩)), (9, s.v), (10, .int .i64 (l.length : Int)), (11, .int .i64 (i : Int))])
    (fun (i : (Nat)) (H : Heap) => (i ≤ l.length) ∧ Nw H3 H)
    (fun (i : (Nat)) => l.length - i) 0 ⟨rfl, rfl, rfl, rfl, rfl, trivial⟩ ?_ ?_
  ·
    exact ⟨(by omega), Mo.refl _ _⟩
  intro i HL1 hI1 K5 hN5 hE5
  obtain ⟨hi, hlm1⟩ := hI1
  replace hf := hf.nw hlm1
  replace mx := mx.nw hlm1
  replace hlg := hlg.nw hlm1
  replace hr := hr.nw hlm1
  replace hx := fun x hx_ => (hx x hx_).nw hlm1
  replace hc2 := hc2.nw hlm1
  replace hc3 := hc3.nw hlm1
  replace hm0 := hm0.trN hlm1
  have hz3 := hlm1.size
  refine CW.seq (fun K6 hK6 hE6 => ?_)
  refine CW.region ?_
  refine LR.v (Y.lss rfl rfl rfl) (Wd.u rfl) rfl rfl ?_
  refine LR.nil ?_
  refine hK6 _ _ ?_
  refine CW.seq (fun K7 hK7 hE7 => ?_)
  refine CW.condp rfl (fun c12 => ?_) (fun c12 => ?_)
  ·
    have hil : i < l.length := by omega
    have hxi := hx l[i] (List.getElem_mem hil)
    have hri := hrl l[i] (List.getElem_mem hil)
    refine CW.skip ?_
    refine hK7 _ _ ?_
    refine CW.seq (fun K8 hK8 hE8 => ?_)
    refine CW.block (fun K9 hK9 hX9 hE9 => ?_)
    refine CW.seq (fun K10 hK10 hE10 => ?_)
    refine CW.region ?_
    refine LR.e (g := fun ad => .pointer (some ad)) (Y.indexAddrF hr (i) rfl Tryd.runUnderlying22 Tryd.sizeOf23 rfl rfl (by first | rfl | omega) (by first | omega | (simp; omega) | (simp; done))) (Wd.u rfl) rfl rfl (fun ad13 pt13 => ?_)
    have bf_pt13 := bf_hr
    refine LR.v (Y.load1 pt13.pt rfl Tryd.isAgg23 rfl) (Wd.u rfl) rfl rfl ?_
    refine LR.v (Y.assign rfl rfl) (Wd.u rfl) rfl rfl ?_
    refine LR.nil ?_
    refine hK10 _ _ ?_
    refine CW.seq (fun K11 hK11 hE11 => ?_)
    refine CW.region ?_
    refine LR.v (Y.move rfl rfl) (Wd.u rfl) rfl rfl ?_
    refine LR.v (Y.len hxi rfl Tryd.runUnderlying23 rfl) (Wd.u rfl) rfl rfl ?_
    refine LR.v ((Y.gtr rfl rfl rfl).isF (by omega)) (Wd.u rfl) rfl rfl ?_
    refine LR.nil ?_
    refine hK11 _ _ ?_
    refine CW.cond_f rfl ?_
    refine CW.skip ?_
    refine hK9 _ _ ?_
    refine hK8 _ _ ?_
    refine CW.region ?_
    refine LR.v (Y.addi rfl rfl rfl (by omega)) (Wd.u rfl) rfl rfl ?_
    refine LR.v (Y.move rfl rfl) (Wd.u rfl) rfl rfl ?_
    refine LR.nil ?_
    refine QN.sub (hN5 (i + 1) _ ?_ ?_) ⟨rfl, rfl, rfl, (iv (by omega)), (iv (by omega)), trivial⟩
    · exact ⟨(by omega), hlm1⟩
    · first | omega | (simp only; omega) | (simp; omega)
  ·
    refine CW.exit (hE7 (.exit 0) nofun _ _ (hE5 (.exit 0) nofun _ _ (hX4 _ _ ?_)))
    refine hK2 _ _ ?_
    refine CW.seq (fun K12 hK12 hE12 => ?_)
    refine CW.region ?_
    refine LR.v (Y.load1 hc2.pt rfl Tryd.isAgg41 rfl) (Wd.u rfl) rfl rfl ?_
    refine LR.v (Y.nilCheck rfl rfl) (Wd.u rfl) rfl rfl ?_
    refine LR.v (Y.fieldAddr hlg.pt rfl Tryd.runUnderlying65 rfl rfl Tryd.sizeOf9 (by decide) rfl) (Wd.u rfl) rfl rfl ?_
    refine LR.v (Y.load1 (hlg.pt.drop 1) rfl Tryd.isAgg9 rfl) (Wd.u rfl) rfl rfl ?_
    refine LR.v (Y.cast (v2 := Str (newP p)) (Y.sadd rfl rfl rfl (by simp only [List.length_cons, List.length_nil]; omega)) (rfl)) (Wd.u rfl) rfl rfl ?_
    refine LR.z (Z.allocv rfl Tryd.zeroValue9) (Wd.u rfl) rfl rfl (fun v7 H7 r7 => ?_)
    obtain ⟨rfl, hc7, hs7, ob7, hH7⟩ := r7
    have hzs7 : H7.size = HL1.size + 1 := by rw [hH7]; simp
    have dj14 : DL (HL1.size + 1) K := DL.newK hf.bk
    have df15 := (DF.new (bf_mx.mono hm0.size) : DF _ (HL1.size + 1))
    have dj16 : Dj (lb + 1) (HL1.size + 1) := Dj.new hlg.lt
    have df17 := (DF.new (bf_hr.mono hm0.size) : DF _ (HL1.size + 1))
    have df18 := (DF.new (bf_hx.mono hm0.size) : DF _ (HL1.size + 1))
    have dj19 : Dj (H0.size + 1) (HL1.size + 1) := Dj.new hc2.lt
    have dj20 : Dj (H2.size + 1) (HL1.size + 1) := Dj.new hc3.lt
    have nx21 : Nx 0 H0.size (HL1.size + 1) := Nx.new hm0.size
    replace hf := hf.nw hs7
    replace mx := mx.nw hs7
    replace hlg := hlg.nw hs7
    replace hr := hr.nw hs7
    replace hx := fun x hx_ => (hx x hx_).nw hs7
    replace hc2 := hc2.nw hs7
    replace hc3 := hc3.nw hs7
    replace hm0 := hm0.trN hs7
    have hz4 := hs7.size
    replace hc7 : Var 9 H7 HL1.size ([Str []]) := hc7
    refine LR.s (S.var1 hc7 0 ([Str (newP p)]) rfl rfl rfl (rfl) Tryd.sizeOf9 (by simp) (rfl)) (Wd.u rfl) rfl (fun H7_6 r7_6 => ?_)
    obtain ⟨hc7, hs7_6⟩ := r7_6
    replace hs7_6 := hs7_6.md1
    replace hf := hf.upL hs7_6 (DKL.cons dj14 DKL.nil)
    replace mx := mx.upL hs7_6 (DFL.cons df15 DFL.nil)
    replace hlg := hlg.upL hs7_6 (DL.cons dj16 DL.nil)
    replace hr := hr.upL hs7_6 (DFL.cons df17 DFL.nil)
    replace hx := fun x hx_ => (hx x hx_).upL hs7_6 (DFL.cons df18 DFL.nil)
    replace hc2 := hc2.upL hs7_6 (DL.cons dj19 DL.nil)
    replace hc3 := hc3.upL hs7_6 (DL.cons dj20 DL.nil)
    replace hm0 := hm0.trL hs7_6 (MIL.cons (MI.app MI.z (nx21) (Nat.le_refl _)) MIL.nil)
    have hz5 := hs7_6.size
    refine LR.nil ?_
    refine hK12 _ _ ?_
    refine CW.seq (fun K13 hK13 hE13 => ?_)
    refine CW.region ?_
    refine LR.v (Y.makeFunc rfl rfl) (Wd.u rfl) rfl rfl ?_
    refine LR.v (Y.makeFunc rfl rfl) (Wd.u rfl) rfl rfl ?_
    refine LR.v (Y.makeFunc rfl rfl) (Wd.u rfl) rfl rfl ?_
    refine LR.v (Y.makeFunc rfl rfl) (Wd.u rfl) rfl rfl ?_
    refine LR.z (Z.litw _ (([(45, [ptr H0.size, ptr HL1.size, ptr H2.size]), (47, [ptr H0.size, ptr HL1.size]), (48, [ptr H0.size, ptr HL1.size]), (50, [ptr H0.size])] : List FnV)) rfl inf90 rfl rfl rfl (by decide) (by decide) fFn_len fFn_one (rfl)) (Wd.u rfl) rfl rfl (fun v28 H28 r28 => ?_)
    obtain ⟨ow28, hs28, ob28, hH28⟩ := r28
    have hzs28 : H28.size = H7_6.size + 1 := by rw [hH28]; simp
    have dj22 : DL (H7_6.size + 1) K := DL.newK hf.bk
    have df23 := (DF.new (bf_mx.mono hm0.size) : DF _ (H7_6.size + 1))
    have dj24 : Dj (lb + 1) (H7_6.size + 1) := Dj.new hlg.lt
    have df25 := (DF.new (bf_hr.mono hm0.size) : DF _ (H7_6.size + 1))
    have df26 := (DF.new (bf_hx.mono hm0.size) : DF _ (H7_6.size + 1))
    have dj27 : Dj (H0.size + 1) (H7_6.size + 1) := Dj.new hc2.lt
    have dj28 : Dj (H2.size + 1) (H7_6.size + 1) := Dj.new hc3.lt
    have dj29 : Dj (HL1.size + 1) (H7_6.size + 1) := Dj.new hc7.lt
    have nx30 : Nx 0 H0.size (H7_6.size + 1) := Nx.new hm0.size
    replace hf := hf.nw hs28
    replace mx := mx.nw hs28
    replace hlg := hlg.nw hs28
    replace hr := hr.nw hs28
    replace hx := fun x hx_ => (hx x hx_).nw hs28
    replace hc2 := hc2.nw hs28
    replace hc3 := hc3.nw hs28
    replace hc7 := hc7.nw hs28
    replace hm0 := hm0.trN hs28
    have hz6 := hs28.size
    -- call selvage/wal.first
    refine LR.call rfl Tryd.call32 rfl (Wd.u rfl) rfl rfl (first_ct K g b D v28 [(45, [ptr H0.size, ptr HL1.size, ptr H2.size]), (47, [ptr H0.size, ptr HL1.size]), (48, [ptr H0.size, ptr HL1.size]), (50, [ptr H0.size])] (frS p (recs l)) _ w0 _ hf ow28.rd (BF.of ow28.le) (DFL.of (dj22)) rfl (ck_steps (LgS.mk mx (bf_mx.mono (by omega)) (dmx) hc2 hlg (dj1) (dl)) (VaS.mk hc7 (dj14)) (VaS.mk hc3 (dj7)) (RwS.mk hr (bf_hr.mono (by omega)) (dfr)) hx hrl hel hl hB hN)) (fun v29 H29 r29 => ?_)
    have ql31 := hf.bk
    have ql32 := hlg.lt
    have ql33 := hc2.lt
    have ql34 := hc3.lt
    have ql35 := hc7.lt
    have ql36 := ow28.le
    obtain ⟨K29, g29, rfl, hf, hkd29, hs29⟩ := r29
    have df37 := DFL.appK (dmx) (bf_mx.mono hm0.size) hkd29
    have dj38 : DL (lb + 1) K29 := DL.appK (dl) ql32 hkd29
    have df39 := DFL.appK (dfr) (bf_hr.mono hm0.size) hkd29
    have df40 := DFL.appK (dfx) (bf_hx.mono hm0.size) hkd29
    have dj41 : DL (H0.size + 1) K29 := DL.appK (dj1) ql33 hkd29
    have dj42 : DL (H2.size + 1) K29 := DL.appK (dj7) ql34 hkd29
    have dj43 : DL (HL1.size + 1) K29 := DL.appK (dj14) ql35 hkd29
    have dj44 : DL (H7_6.size + 1) K29 := DL.appK (dj22) ql36 hkd29
    have nx45 : NxK K H0.size K29 := NxK.tr (nx_hm0_hf) hkd29 hm0.size
    replace mx := mx.upL hs29 (dmx)
    replace hlg := hlg.upL hs29 (dl)
    replace hr := hr.upL hs29 (dfr)
    replace hx := fun x hx_ => (hx x hx_).upL hs29 (dfx)
    replace hc2 := hc2.upL hs29 (dj1)
    replace hc3 := hc3.upL hs29 (dj7)
    replace hc7 := hc7.upL hs29 (dj14)
    replace ow28 := ow28.upL hs29 (dj22)
    replace hm0 := hm0.trL hs29 (MIL.ofK (nx_hm0_hf) (by intro k hk; simp [hk]))
    have hz7 := hs29.size
    have hbk_hf := hf.bk
    refine LR.v (Y.assign rfl rfl) (Wd.u rfl) rfl rfl ?_
    refine LR.nil ?_
    refine hK13 _ _ ?_
    refine CW.seq (fun K14 hK14 hE14 => ?_)
    refine CW.seq (fun K15 hK15 hE15 => ?_)
    refine CW.region ?_
    refine LR.v (Y.move rfl rfl) (Wd.u rfl) rfl rfl ?_
    refine LR.v (Y.eql rfl rfl rfl) (Wd.u rfl) rfl rfl ?_
    refine LR.nil ?_
    refine hK15 _ _ ?_
    refine CW.condp rfl (fun c31 => ?_) (fun c31 => ?_)
    ·
      refine CW.region_any (fun Hq => Mo (Ms [(lb + 1)]) H29 Hq) [] rfl ?_
      have hq10 : Mo (Ms [(lb + 1)]) H29 H29 := Mo.refl _ _
      have nx46 := Nx.refl (lb + 1) H29.size
      refine LH.take 0 (by kernel_rfl) rfl (by kernel_rfl) (by kernel_rfl) (by kernel_rfl) (fun Hq hq => Y.load1 (hc2.upL hq (DL.cons dj3.symm DL.nil)).pt rfl Tryd.isAgg41 rfl) (Wd.u rfl) rfl rfl hq10 ?_
      refine LH.take 1 (by kernel_rfl) rfl (by kernel_rfl) (by kernel_rfl) (by kernel_rfl) (fun Hq hq => Y.load1 (hc2.upL hq (DL.cons dj3.symm DL.nil)).pt rfl Tryd.isAgg41 rfl) (Wd.u rfl) rfl rfl hq10 ?_
      refine LH.take 2 (by kernel_rfl) rfl (by kernel_rfl) (by kernel_rfl) (by kernel_rfl) (fun Hq hq => Y.load1 (hc3.upL hq (DL.cons dj9.symm DL.nil)).pt rfl Tryd.isAgg22 rfl) (Wd.u rfl) rfl rfl hq10 ?_
      refine LH.take 3 (by kernel_rfl) rfl (by kernel_rfl) (by kernel_rfl) (by kernel_rfl) (fun Hq hq => Y.len (hr.upL hq (DFL.cons dlr DFL.nil)) rfl Tryd.runUnderlying22 rfl) (Wd.u rfl) rfl rfl hq10 ?_
      refine LH.take 4 (by kernel_rfl) rfl (by kernel_rfl) (by kernel_rfl) (by kernel_rfl) (fun Hq hq => Y.nilCheck rfl rfl) (Wd.u rfl) rfl rfl hq10 ?_
      refine LH.take 5 (by kernel_rfl) rfl (by kernel_rfl) (by kernel_rfl) (by kernel_rfl) (fun Hq hq => Y.fieldAddrX hlg.pt rfl Tryd.runUnderlying65 rfl rfl Tryd.sizeOf3 (by decide) rfl) (Wd.u rfl) rfl rfl hq10 ?_
      refine LH.one (i := 6) (by kernel_rfl) ?_
      refine LO.s rfl (S.var1 hlg 2 ([ptr b, Str p, .int .i64 (l.length : Int), .bool br]) rfl rfl rfl (rfl) Tryd.sizeOf3 (by simp) (rfl)) (Wd.u rfl) rfl (fun H10_6 r10_6 => ?_)
      obtain ⟨hlg, hs10_6⟩ := r10_6
      replace hs10_6 := hs10_6.md1
      replace hf := hf.upL hs10_6 (DKL.cons dj38 DKL.nil)
      replace mx := mx.upL hs10_6 (DFL.cons dmv DFL.nil)
      replace hr := hr.upL hs10_6 (DFL.cons dlr DFL.nil)
      replace hx := fun x hx_ => (hx x hx_).upL hs10_6 (DFL.cons dlx DFL.nil)
      replace hc2 := hc2.upL hs10_6 (DL.cons dj3.symm DL.nil)
      replace hc3 := hc3.upL hs10_6 (DL.cons dj9.symm DL.nil)
      replace hm0 := hm0.trL hs10_6 (MIL.cons (MI.app (MI.root (by simp)) (nx_hm0_hlg) (Nat.le_refl _)) MIL.nil)
      replace hq10 := hq10.trL hs10_6 (MIL.cons (MI.app (MI.root (by simp)) (nx46) (Nat.le_refl _)) MIL.nil)
      have hz8 := hs10_6.size
      refine ⟨.inr hq10, LH.narrow (SH2 := fun Hq => Mo (Ms [(lb + 1)]) H10_6 Hq) (fun Hq hq => hq10.trL hq (MIL.cons (MI.app (MI.root (by simp)) (nx46) (Nat.le_refl _)) MIL.nil)) ?_⟩
      have hq10 : Mo (Ms [(lb + 1)]) H10_6 H10_6 := Mo.refl _ _
      have nx47 := Nx.refl (lb + 1) H10_6.size
      refine LH.take 7 (by kernel_rfl) rfl (by kernel_rfl) (by kernel_rfl) (by kernel_rfl) (fun Hq hq => Y.nilCheck rfl rfl) (Wd.u rfl) rfl rfl hq10 ?_
      refine LH.take 8 (by kernel_rfl) rfl (by kernel_rfl) (by kernel_rfl) (by kernel_rfl) (fun Hq hq => Y.fieldAddrX hlg.pt rfl Tryd.runUnderlying65 rfl rfl Tryd.sizeOf4 (by decide) rfl) (Wd.u rfl) rfl rfl hq10 ?_
      refine LH.one (i := 9) (by kernel_rfl) ?_
      refine LO.s rfl (S.var1 hlg 3 ([ptr b, Str p, .int .i64 (l.length : Int), .bool false]) rfl rfl rfl (rfl) Tryd.sizeOf4 (by simp) (rfl)) (Wd.u rfl) rfl (fun H10_9 r10_9 => ?_)
      obtain ⟨hlg, hs10_9⟩ := r10_9
      replace hs10_9 := hs10_9.md1
      replace hf := hf.upL hs10_9 (DKL.cons dj38 DKL.nil)
      replace mx := mx.upL hs10_9 (DFL.cons dmv DFL.nil)
      replace hr := hr.upL hs10_9 (DFL.cons dlr DFL.nil)
      replace hx := fun x hx_ => (hx x hx_).upL hs10_9 (DFL.cons dlx DFL.nil)
      replace hc2 := hc2.upL hs10_9 (DL.cons dj3.symm DL.nil)
      replace hc3 := hc3.upL hs10_9 (DL.cons dj9.symm DL.nil)
      replace hm0 := hm0.trL hs10_9 (MIL.cons (MI.app (MI.root (by simp)) (nx_hm0_hlg) (Nat.le_refl _)) MIL.nil)
      replace hq10 := hq10.trL hs10_9 (MIL.cons (MI.app (MI.root (by simp)) (nx47) (Nat.le_refl _)) MIL.nil)
      have hz9 := hs10_9.size
      refine ⟨.inr hq10, LH.narrow (SH2 := fun Hq => Mo (Ms [(lb + 1)]) H10_9 Hq) (fun Hq hq => hq10.trL hq (MIL.cons (MI.app (MI.root (by simp)) (nx47) (Nat.le_refl _)) MIL.nil)) ?_⟩
      have hq10 : Mo (Ms [(lb + 1)]) H10_9 H10_9 := Mo.refl _ _
      have nx48 := Nx.refl (lb + 1) H10_9.size
      refine LH.done (by kernel_rfl) ?_
      refine hK14 _ _ ?_
      refine CW.seq (fun K16 hK16 hE16 => ?_)
      refine CW.region ?_
      refine LR.v (Y.move rfl rfl) (Wd.u rfl) rfl rfl ?_
      refine LR.v (Y.assign rfl rfl) (Wd.u rfl) rfl rfl ?_
      refine LR.nil ?_
      refine hK16 _ _ ?_
      refine CW.ret (hret .ret (.inr rfl) _ _ _ (res1 rfl rfl) ?_)
      have he0 : (runD (frS p (recs l)) D).1 = 0 := by omega
      exact ⟨_, _, rfl, hf, nx45, by unfold lgN lgB freshD; rw [if_pos he0, if_pos he0]; exact hlg, dj38, hm0⟩
    ·
      refine CW.skip ?_
      refine hK14 _ _ ?_
      refine CW.seq (fun K17 hK17 hE17 => ?_)
      refine CW.region ?_
      refine LR.v (Y.move rfl rfl) (Wd.u rfl) rfl rfl ?_
      refine LR.v (Y.assign rfl rfl) (Wd.u rfl) rfl rfl ?_
      refine LR.nil ?_
      refine hK17 _ _ ?_
      refine CW.ret (hret .ret (.inr rfl) _ _ _ (res1 rfl rfl) ?_)
      have he0 : (runD (frS p (recs l)) D).1 ≠ 0 := by omega
      exact ⟨_, _, rfl, hf, nx45, by unfold lgN lgB freshD; rw [if_neg he0, if_neg he0]; exact hlg, dj38, hm0⟩

end Go.Proofs.YtdliddjkacbggaaDoor.WalE
