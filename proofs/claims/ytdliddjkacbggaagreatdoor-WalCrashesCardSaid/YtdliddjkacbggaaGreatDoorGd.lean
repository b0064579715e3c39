/-
  Contracts of functions of the program, and plain laws: put together of several texts.
-/
import Derived.Test.YtdliddjkacbggaaGreatDoorGc
import Derived.Sort.Walk0
/-
  The disk: changes of names, operations that begin, files that are looked for.
-/
namespace Go.Proofs.YtdliddjkacbggaaGreatDoor.SimD
open Go.Proofs.YtdliddjkacbggaaGreatDoor.E Go.RowKit Go.Proofs.YtdliddjkacbggaaGreatDoor.SimA Go.Proofs.YtdliddjkacbggaaGreatDoor.SimB Go.Proofs.YtdliddjkacbggaaGreatDoor.SimC
set_option maxRecDepth 20000
set_option linter.unusedVariables false
set_option linter.unusedSimpArgs false
set_option linter.unusedSectionVars false

def Chg.apM (c : Chg) (m : Nms) : Nms :=
  let m1 := if c.g = [] then m else mdel m c.g
  match c.f with
  | none => m1
  | some i => mput m1 c.n i
theorem mget_apM (c : Chg) (l : Nms) (q : Pth) : mget (Chg.apM c l) q = c.at q (mget l q) := by
  unfold Chg.apM Chg.at
  cases c.f with
  | none =>
    simp only
    by_cases hg : c.g = []
    · simp [hg]
    · rw [if_neg hg, mget_del]; simp [hg]
  | some i =>
    simp only
    rw [mget_put]
    by_cases hg : c.g = []
    · simp [hg]
    · rw [if_neg hg, mget_del]; simp [hg]

theorem put_ct (fb : List Nat) (nb : Nat) (m : Nms) (c : Chg) (w0 : World) (H0 : Heap)
    (hm : Mp H0 Str (fvl fb) nb m) :
    Ct Tryz.prog w0 39 #[.map (some nb), .agg (fC fb c).toArray] H0 (fun r H2 => (Mp H2 Str (fvl fb) nb (Chg.apM c m)) ∧ Mo (Ms [(nb + 1)]) H0 H2) := by
  refine Ct.enter (args := [.map (some nb), .agg (fC fb c).toArray]) Tryz.func39 rfl rfl rfl ?_
  intro Q0 hret
  have hm0 : Mo (Ms [(nb + 1)]) H0 H0 := Mo.refl _ _
  have nx_hm0_hm := Nx.refl (nb + 1) H0.size
  have hlt_hm := hm.lt
  refine CW.seq (fun K1 hK1 hE1 => ?_)
  refine CW.region ?_
  refine LR.z (Z.boxv rfl rfl) (Wd.u rfl) rfl rfl (fun v3 H3 r3 => ?_)
  obtain ⟨rfl, vc, hs3, ob3, hH3⟩ := r3
  have hzs3 : H3.size = H0.size + 1 := by rw [hH3]; simp
  have dj1 : Dj (nb + 1) (H0.size + 1) := Dj.new hm.lt
  have nx2 : Nx 0 H0.size (H0.size + 1) := Nx.new hm0.size
  replace hm := hm.nw hs3
  replace hm0 := hm0.trN hs3
  have hz1 := hs3.size
  replace vc : Var 103 H3 H0.size (fC fb c) := vc
  refine LR.nil ?_
  refine hK1 _ _ ?_
  refine CW.cut (fun (m1 : (Nms)) => [(0, .map (some nb)), (3, .pointer (some ⟨H0.size, 0, none⟩))])
    (fun (m1 : (Nms)) (H : Heap) => (Mp H Str (fvl fb) nb m1) ∧ (m1 = if c.g = [] then m else mdel m c.g) ∧ Mo (Ms [(nb + 1)]) H3 H) (fun K2 hK2 hE2 => ?_) ?_
  ·
    have hcm2 : Mo (Ms [(nb + 1)]) H3 H3 := Mo.refl _ _
    have nx_hcm2_hm := Nx.refl (nb + 1) H3.size
    refine CW.seq (fun K3 hK3 hE3 => ?_)
    refine CW.region ?_
    refine LR.v (Y.fieldAddr vc.pt rfl Tryz.runUnderlying103 rfl rfl Tryz.sizeOf9 (by decide) rfl) (Wd.u rfl) rfl rfl ?_
    refine LR.v (Y.load1 vc.pt rfl Tryz.isAgg9 rfl) (Wd.u rfl) rfl rfl ?_
    refine LR.v (Y.sneq rfl rfl rfl) (Wd.u rfl) rfl rfl ?_
    refine LR.nil ?_
    refine hK3 _ _ ?_
    refine CW.condp rfl (fun c6 => ?_) (fun c6 => ?_)
    ·
      refine CW.region ?_
      refine LR.v (Y.move rfl rfl) (Wd.u rfl) rfl rfl ?_
      refine LR.v (Y.fieldAddr vc.pt rfl Tryz.runUnderlying103 rfl rfl Tryz.sizeOf9 (by decide) rfl) (Wd.u rfl) rfl rfl ?_
      refine LR.v (Y.load1 vc.pt rfl Tryz.isAgg9 rfl) (Wd.u rfl) rfl rfl ?_
      refine LR.zn (Z.delS hm keyStr rfl Tryz.runUnderlying94 Tryz.underlying9 rfl rfl) (Wd.u rfl) rfl (fun v2_3 H2_3 r2_3 => ?_)
      obtain ⟨rfl, hm, hs2_3⟩ := r2_3
      replace hs2_3 := hs2_3.md1
      replace vc := vc.upL hs2_3 (DL.cons dj1.symm DL.nil)
      replace hm0 := hm0.trL hs2_3 (MIL.cons (MI.app (MI.root (by simp)) (nx_hm0_hm) (Nat.le_refl _)) MIL.nil)
      replace hcm2 := hcm2.trL hs2_3 (MIL.cons (MI.app (MI.root (by simp)) (nx_hcm2_hm) (Nat.le_refl _)) MIL.nil)
      have hz2 := hs2_3.size
      refine LR.nil ?_
      refine QN.sub (hK2 (mdel m c.g) _ ?_) ⟨rfl, rfl, trivial⟩
      exact ⟨hm, by rw [if_neg (by simpa using c6)], hcm2⟩
    ·
      refine CW.skip ?_
      refine QN.sub (hK2 m _ ?_) ⟨rfl, rfl, trivial⟩
      exact ⟨hm, by rw [if_pos (by simpa using c6)], hcm2⟩
  ·
    intro m1 Hcutc6 hIcutc6
    obtain ⟨hm, hm1, hlmcutc6⟩ := hIcutc6
    replace vc := vc.upL hlmcutc6 (DL.cons dj1.symm DL.nil)
    replace hm0 := hm0.trL hlmcutc6 (MIL.cons (MI.app (MI.root (by simp)) (nx_hm0_hm) (Nat.le_refl _)) MIL.nil)
    have hz3 := hlmcutc6.size
    have nx_hlmcutc6_hm := Nx.refl (nb + 1) H3.size
    refine CW.seq (fun K4 hK4 hE4 => ?_)
    refine CW.region ?_
    refine LR.v (Y.fieldAddr vc.pt rfl Tryz.runUnderlying103 rfl rfl Tryz.sizeOf101 (by decide) rfl) (Wd.u rfl) rfl rfl ?_
    refine LR.v (Y.load1 (vc.pt.drop 2) rfl Tryz.isAgg101 rfl) (Wd.u rfl) rfl rfl ?_
    refine LR.v (Y.pne rfl (by kernel_rfl) (by kernel_rfl) rfl rfl) (Wd.u rfl) rfl rfl ?_
    refine LR.nil ?_
    refine hK4 _ _ ?_
    refine CW.cond rfl (fun c12 => ?_) (fun c12 => ?_)
    ·
      obtain ⟨i, hci⟩ : ∃ i, c.f = some i := by
        cases hcf : c.f with
        | none => rw [hcf] at c12; cases c12
        | some i => exact ⟨i, rfl⟩
      refine CW.region ?_
      refine LR.v (Y.move rfl rfl) (Wd.u rfl) rfl rfl ?_
      refine LR.v (Y.fieldAddr vc.pt rfl Tryz.runUnderlying103 rfl rfl Tryz.sizeOf9 (by decide) rfl) (Wd.u rfl) rfl rfl ?_
      refine LR.v (Y.load1 (vc.pt.drop 1) rfl Tryz.isAgg9 rfl) (Wd.u rfl) rfl rfl ?_
      refine LR.v (Y.fieldAddr vc.pt rfl Tryz.runUnderlying103 rfl rfl Tryz.sizeOf101 (by decide) rfl) (Wd.u rfl) rfl rfl ?_
      refine LR.v (Y.cast (v2 := fvl fb i) (Y.load1 (vc.pt.drop 2) rfl Tryz.isAgg101 rfl) (by rw [hci]; rfl)) (Wd.u rfl) rfl rfl ?_
      refine LR.s (S.putMp (i) hm keyStr rfl Tryz.runUnderlying94 Tryz.underlying9 rfl rfl rfl) (Wd.u rfl) rfl (fun H4_5 r4_5 => ?_)
      obtain ⟨hm, hs4_5⟩ := r4_5
      replace hs4_5 := hs4_5.md1
      replace vc := vc.upL hs4_5 (DL.cons dj1.symm DL.nil)
      replace hm0 := hm0.trL hs4_5 (MIL.cons (MI.app (MI.root (by simp)) (nx_hm0_hm) (Nat.le_refl _)) MIL.nil)
      have hz4 := hs4_5.size
      refine LR.nil ?_
      refine hret .normal (.inl rfl) _ _ _ (res0 rfl) ?_
      exact ⟨by rw [Chg.apM, ← hm1, hci]; exact hm, hm0⟩
    ·
      refine CW.skip ?_
      refine hret .normal (.inl rfl) _ _ _ (res0 rfl) ?_
      exact ⟨by
        have h9 : c.f = none := by
          cases hcf : c.f with
          | none => rfl
          | some i => rw [hcf] at c12; cases c12
        rw [Chg.apM, ← hm1, h9]; exact hm, hm0⟩

theorem add_ct (e : TypeId) (b : Nat) (cs : List Value) (x y : Int) (w0 : World) (H0 : Heap)
    (hv : Var e H0 b cs) (hc : cs[3]? = some (.int .i64 x)) (hxy : -9223372036854775808 ≤ x + y ∧ x + y ≤ 9223372036854775807) :
    Ct Tryz.prog w0 112 #[.pointer (some ⟨b, 3, none⟩), .int .i64 y] H0 (fun r H2 => r = .int .i64 (x + y) ∧ (Var e H2 b (cs.set 3 (.int .i64 (x + y)))) ∧ Mo (Ms [(b + 1)]) H0 H2) := by
  refine Ct.enter (args := [.pointer (some ⟨b, 3, none⟩), .int .i64 y]) Tryz.func112 rfl rfl rfl ?_
  intro Q0 hret
  have hm0 : Mo (Ms [(b + 1)]) H0 H0 := Mo.refl _ _
  have nx_hm0_hv := Nx.refl (b + 1) H0.size
  have hlt_hv := hv.lt
  refine CW.seq (fun K1 hK1 hE1 => ?_)
  refine CW.region ?_
  refine LR.v (Y.assign rfl rfl) (Wd.u rfl) rfl rfl ?_
  refine LR.nil ?_
  refine hK1 _ _ ?_
  refine CW.seq (fun K2 hK2 hE2 => ?_)
  refine CW.region ?_
  refine LR.v (Y.move rfl rfl) (Wd.u rfl) rfl rfl ?_
  refine LR.v (Y.nilCheck rfl rfl) (Wd.u rfl) rfl rfl ?_
  refine LR.v (Y.fieldAddr (hv.pt.drop 3) rfl Tryz.runUnderlying71 rfl rfl Tryz.sizeOf2 (by decide) rfl) (Wd.u rfl) rfl rfl ?_
  refine LR.v (Y.move rfl rfl) (Wd.u rfl) rfl rfl ?_
  refine LR.z (Z.add64 hv hc rfl Tryz.func131 (by kernel_rfl) (by kernel_rfl) (by kernel_rfl) (by kernel_rfl) rfl hxy) (Wd.u rfl) rfl rfl (fun v9 H9 r9 => ?_)
  obtain ⟨rfl, hv, hs9⟩ := r9
  replace hs9 := hs9.md1
  replace hm0 := hm0.trL hs9 (MIL.cons (MI.app (MI.root (by simp)) (nx_hm0_hv) (Nat.le_refl _)) MIL.nil)
  have hz1 := hs9.size
  refine LR.v (Y.assign rfl rfl) (Wd.u rfl) rfl rfl ?_
  refine LR.nil ?_
  refine hK2 _ _ ?_
  refine CW.ret (hret .ret (.inr rfl) _ _ _ (res1 rfl rfl) ?_)
  exact ⟨rfl, hv, hm0⟩

section
variable {w0 : World} {n : Nat} {l : FL} {H : Heap} {o : Oper} {K : List Nat} {g : Gh} {b lv : Nat} {D : Dk} {x y : Operand} {t : TypeId}
theorem pd_left (h : PDk K g H b D) (lv : Nat) (ho : o.op = .store t x y) (hx : opv l x = some (.pointer (some ⟨b, 4, none⟩))) (hy : opv l y = some (.int .i64 (lv : Int))) (hs : ∀ w, (sizeOf t).run Tryz.prog w = .ok 1 w) (hl : lv ≤ 9223372036854775807) :
    S Tryz.prog w0 n l H o (fun H' => PDk K { g with lv := lv } H' b { D with left := lv } ∧ Mo (Ms K) H H') :=
  (S.var1 h.vb 4 _ ho hx hy rfl hs (by simp) rfl).mono fun H' ⟨h1, h2⟩ => ⟨h.setFs h2.md1 ⟨rfl, rfl, rfl, rfl⟩ h1 (fun _ => rfl) hl ⟨rfl, rfl, rfl, rfl, rfl, rfl⟩ (Nat.le_refl _), h.ms h2 (fun c e => by rw [e, h.rb]; simp)⟩
theorem pd_dead (h : PDk K g H b D) (dd : Bool) (hdd : dd = false → D.dead = false) (ho : o.op = .store t x y) (hx : opv l x = some (.pointer (some ⟨b, 5, none⟩))) (hy : opv l y = some (.bool dd)) (hs : ∀ w, (sizeOf t).run Tryz.prog w = .ok 1 w) :
    S Tryz.prog w0 n l H o (fun H' => PDk K g H' b { D with dead := dd } ∧ Mo (Ms K) H H') :=
  (S.var1 h.vb 5 _ ho hx hy rfl hs (by simp) rfl).mono fun H' ⟨h1, h2⟩ => ⟨h.setFs h2.md1 ⟨rfl, rfl, rfl, rfl⟩ h1 (fun e => h.lvD (hdd e)) h.lvB ⟨rfl, rfl, rfl, rfl, rfl, rfl⟩ (Nat.le_refl _), h.ms h2 (fun c e => by rw [e, h.rb]; simp)⟩
/-- a disk that is dead: it does not matter when it was to stop -/
theorem pd_leftany (h : PDk K g H b D) (hd : D.dead = true) (x : Nat) : PDk K g H b { D with left := x } :=
  { h with
    lvD := fun e => (by rw [show ({ D with left := x } : Dk).dead = D.dead from rfl, hd] at e; cases e)
    dirs := fun p db e => (by
      obtain ⟨nb, sb, k, sv, nm, sm, q⟩ := h.dirs p db e
      exact ⟨nb, sb, k, sv, nm, sm, { q with en := q.en, es := q.es, hc := q.hc }⟩) }
theorem begin_F {dd : Bool} {x : Nat} (hl : D.dead = false → lv = D.left) (h : PDk K g H b { D with left := x, dead := dd }) (hdd : dd = true) (hcase : D.dead = true ∨ (D.dead = false ∧ lv = 1 ∧ x = 0)) : PDk K g H b D.begin.2 ∧ .bool false = Value.bool D.begin.1 := by
  subst hdd
  rcases hcase with hd | ⟨hd, h1, h2⟩
  · have e : D.begin = (false, D) := by unfold Dk.begin; rw [if_pos hd]
    rw [e]
    refine ⟨?_, rfl⟩
    have := pd_leftany h rfl D.left
    obtain ⟨cap, most, fs, now, stays, log, ops, left, dead⟩ := D
    simp only at hd
    subst hd
    exact this
  · have := hl hd
    have e : D.begin = (false, { D with left := 0, dead := true }) := by unfold Dk.begin; rw [if_neg (by simp [hd]), if_pos (by omega)]
    rw [e]
    subst h2
    exact ⟨h, rfl⟩
theorem begin_T {dd : Bool} {x : Nat} (h : PDk K g H b { D with left := x, dead := dd, ops := D.ops + 1 }) (hdd : dd = false) (hd : D.dead = false) (h1 : D.left ≠ 1) (hx : x = D.left - 1) : PDk K g H b D.begin.2 ∧ .bool true = Value.bool D.begin.1 := by
  subst hdd; subst hx
  have e : D.begin = (true, { D with left := D.left - 1, ops := D.ops + 1 }) := by unfold Dk.begin; rw [if_neg (by simp [hd]), if_neg h1]
  rw [e]
  obtain ⟨cap, most, fs, now, stays, log, ops, left, dead⟩ := D
  simp only at hd
  subst hd
  exact ⟨h, rfl⟩
end
theorem addD_ct {K : List Nat} {g : Gh} {b : Nat} {D : Dk} (w0 : World) (H0 : Heap) (h : PDk K g H0 b D) (ho : D.ops ≤ 1099511627776) : Ct Tryz.prog w0 112 #[.pointer (some ⟨b, 3, none⟩), .int .i64 1] H0 (fun r H2 => r = .int .i64 ((D.ops : Int) + 1) ∧ PDk K g H2 b { D with ops := D.ops + 1 } ∧ Mo (Ms K) H0 H2) :=
  (add_ct _ b _ (D.ops : Int) 1 w0 H0 h.vb rfl (by omega)).mono fun r H2 ⟨h1, h2, h3⟩ => ⟨h1, h.setFs h3 ⟨rfl, rfl, rfl, rfl⟩ h2 h.lvD h.lvB ⟨rfl, rfl, rfl, rfl, rfl, rfl⟩ (Nat.le_succ _), h.ms h3 (fun c e => by
    have : c = b := by simpa [Ms] using e
    rw [this, h.rb]; simp)⟩

theorem begin_ct (K : List Nat) (g : Gh) (b : Nat) (D : Dk) (w0 : World) (H0 : Heap)
    (hf : PDk K g H0 b D) (ho : D.ops ≤ 1099511627776) :
    Ct Tryz.prog w0 73 #[ptr b] H0 (fun r H2 => ∃ g2 : Gh, r = .bool D.begin.1 ∧ (PDk K g2 H2 b D.begin.2) ∧ (g2.ρ = g.ρ ∧ g2.fb = g.fb ∧ g2.mb = g.mb ∧ g2.dm = g.dm) ∧ Mo (Ms K) H0 H2) := by
  refine Ct.enter (args := [ptr b]) Tryz.func73 rfl rfl rfl ?_
  intro Q0 hret
  have hm0 : Mo (Ms K) H0 H0 := Mo.refl _ _
  have nx_hm0_hf := NxK.refl K H0.size
  have hbk_hf := hf.bk
  have hlb := hf.lvB
  have hld := hf.lvD
  refine CW.seq (fun K1 hK1 hE1 => ?_)
  refine CW.region ?_
  refine LR.v (Y.assign rfl rfl) (Wd.u rfl) rfl rfl ?_
  refine LR.nil ?_
  refine hK1 _ _ ?_
  refine CW.seq (fun K2 hK2 hE2 => ?_)
  refine CW.seq (fun K3 hK3 hE3 => ?_)
  refine CW.region ?_
  refine LR.v (Y.move rfl rfl) (Wd.u rfl) rfl rfl ?_
  refine LR.v (Y.nilCheck rfl rfl) (Wd.u rfl) rfl rfl ?_
  refine LR.v (Y.fieldAddr hf.vb.pt rfl Tryz.runUnderlying73 rfl rfl Tryz.sizeOf3 (by decide) rfl) (Wd.u rfl) rfl rfl ?_
  refine LR.v (Y.load1 (hf.vb.pt.drop 4) rfl Tryz.isAgg3 rfl) (Wd.u rfl) rfl rfl ?_
  refine LR.v (Y.gtr rfl rfl rfl) (Wd.u rfl) rfl rfl ?_
  refine LR.nil ?_
  refine hK3 _ _ ?_
  refine CW.condp rfl (fun c7 => ?_) (fun c7 => ?_)
  ·
    refine CW.seq (fun K4 hK4 hE4 => ?_)
    refine CW.region ?_
    refine LR.v (Y.move rfl rfl) (Wd.u rfl) rfl rfl ?_
    refine LR.v (Y.nilCheck rfl rfl) (Wd.u rfl) rfl rfl ?_
    refine LR.v (Y.fieldAddr hf.vb.pt rfl Tryz.runUnderlying73 rfl rfl Tryz.sizeOf3 (by decide) rfl) (Wd.u rfl) rfl rfl ?_
    refine LR.v (Y.load1 (hf.vb.pt.drop 4) rfl Tryz.isAgg3 rfl) (Wd.u rfl) rfl rfl ?_
    refine LR.v (Y.cast (v2 := .int .i64 ((g.lv - 1 : Nat) : Int)) (Y.subi rfl rfl rfl (by omega)) (ivv (by omega))) (Wd.u rfl) rfl rfl ?_
    refine LR.v (Y.nilCheck rfl rfl) (Wd.u rfl) rfl rfl ?_
    refine LR.v (Y.fieldAddr hf.vb.pt rfl Tryz.runUnderlying73 rfl rfl Tryz.sizeOf3 (by decide) rfl) (Wd.u rfl) rfl rfl ?_
    refine LR.s (pd_left hf (g.lv - 1) rfl rfl rfl Tryz.sizeOf3 (by omega)) (Wd.u rfl) rfl (fun H2_7 r2_7 => ?_)
    obtain ⟨hf, hs2_7⟩ := r2_7
    replace hm0 := hm0.trL hs2_7 (MIL.ofK (nx_hm0_hf) (by intro k hk; simp [hk]))
    have hz1 := hs2_7.size
    have hbk_hf := hf.bk
    refine LR.nil ?_
    refine hK4 _ _ ?_
    refine CW.region ?_
    refine LR.v (Y.move rfl rfl) (Wd.u rfl) rfl rfl ?_
    refine LR.v (Y.move rfl rfl) (Wd.u rfl) rfl rfl ?_
    refine LR.v (Y.nilCheck rfl rfl) (Wd.u rfl) rfl rfl ?_
    refine LR.v (Y.fieldAddr hf.vb.pt rfl Tryz.runUnderlying73 rfl rfl Tryz.sizeOf4 (by decide) rfl) (Wd.u rfl) rfl rfl ?_
    refine LR.v (Y.load1 (hf.vb.pt.drop 5) rfl Tryz.isAgg4 rfl) (Wd.u rfl) rfl rfl ?_
    refine LR.v (Y.move rfl rfl) (Wd.u rfl) rfl rfl ?_
    refine LR.split (d := 20) rfl (fun g20 => ?_) (fun g20 => ?_)
    ·
      refine LR.gs rfl rfl rfl rfl rfl rfl ?_
      refine LR.gs rfl rfl rfl rfl rfl rfl ?_
      refine LR.gs rfl rfl rfl rfl rfl rfl ?_
      refine LR.gs rfl rfl rfl rfl rfl rfl ?_
      refine LR.gs rfl rfl rfl rfl rfl rfl ?_
      refine LR.v (Y.pick_t rfl rfl rfl) (Wd.u rfl) rfl rfl ?_
      refine LR.v (Y.nilCheck rfl rfl) (Wd.u rfl) rfl rfl ?_
      refine LR.v (Y.fieldAddr hf.vb.pt rfl Tryz.runUnderlying73 rfl rfl Tryz.sizeOf4 (by decide) rfl) (Wd.u rfl) rfl rfl ?_
      refine LR.s (pd_dead hf _ (by intro h; first | exact g20 | cases h) rfl rfl rfl Tryz.sizeOf4) (Wd.u rfl) rfl (fun H3_14 r3_14 => ?_)
      obtain ⟨hf, hs3_14⟩ := r3_14
      replace hm0 := hm0.trL hs3_14 (MIL.ofK (nx_hm0_hf) (by intro k hk; simp [hk]))
      have hz2 := hs3_14.size
      have hbk_hf := hf.bk
      refine LR.nil ?_
      refine hK2 _ _ ?_
      refine CW.seq (fun K5 hK5 hE5 => ?_)
      refine CW.seq (fun K6 hK6 hE6 => ?_)
      refine CW.region ?_
      refine LR.v (Y.move rfl rfl) (Wd.u rfl) rfl rfl ?_
      refine LR.v (Y.nilCheck rfl rfl) (Wd.u rfl) rfl rfl ?_
      refine LR.v (Y.fieldAddr hf.vb.pt rfl Tryz.runUnderlying73 rfl rfl Tryz.sizeOf4 (by decide) rfl) (Wd.u rfl) rfl rfl ?_
      refine LR.v (Y.load1 (hf.vb.pt.drop 5) rfl Tryz.isAgg4 rfl) (Wd.u rfl) rfl rfl ?_
      refine LR.nil ?_
      refine hK6 _ _ ?_
      refine CW.cond rfl (fun c32 => ?_) (fun c32 => ?_)
      ·
        first
        | (simp at c32; done)
        | skip
          refine CW.seq (fun K7 hK7 hE7 => ?_)
          refine CW.region ?_
          refine LR.v (Y.assign rfl rfl) (Wd.u rfl) rfl rfl ?_
          refine LR.nil ?_
          refine hK7 _ _ ?_
          refine CW.ret (hE5 .ret nofun _ _ (hret .ret (.inr rfl) _ _ _ (res1 rfl rfl) ?_))
          have hq := begin_F hld hf (by first | rfl | exact c32) (by first | exact .inl g20 | exact .inr ⟨g20, by simp at c32; omega, by simp at c32; omega⟩)
          exact ⟨_, hq.2, hq.1, ⟨rfl, rfl, rfl, rfl⟩, hm0⟩
      ·
        first
        | (simp at c32; done)
        | skip
          refine CW.skip ?_
          refine hK5 _ _ ?_
          refine CW.seq (fun K8 hK8 hE8 => ?_)
          refine CW.region ?_
          refine LR.v (Y.move rfl rfl) (Wd.u rfl) rfl rfl ?_
          refine LR.v (Y.nilCheck rfl rfl) (Wd.u rfl) rfl rfl ?_
          refine LR.v (Y.fieldAddr hf.vb.pt rfl Tryz.runUnderlying73 rfl rfl Tryz.sizeOf71 (by decide) rfl) (Wd.u rfl) rfl rfl ?_
          -- call (*sync/atomic.Int64).Add
          refine LR.call rfl Tryz.call112 rfl (Wd.u rfl) rfl rfl (addD_ct w0 _ hf ho) (fun v36 H36 r36 => ?_)
          obtain ⟨rfl, hf, hs36⟩ := r36
          replace hm0 := hm0.trL hs36 (MIL.ofK (nx_hm0_hf) (by intro k hk; simp [hk]))
          have hz3 := hs36.size
          refine LR.nil ?_
          refine hK8 _ _ ?_
          refine CW.seq (fun K9 hK9 hE9 => ?_)
          refine CW.region ?_
          refine LR.v (Y.assign rfl rfl) (Wd.u rfl) rfl rfl ?_
          refine LR.nil ?_
          refine hK9 _ _ ?_
          refine CW.ret (hret .ret (.inr rfl) _ _ _ (res1 rfl rfl) ?_)
          obtain ⟨g2, hq⟩ : ∃ g2 : Gh, (PDk K g2 H36 b D.begin.2 ∧ .bool true = Value.bool D.begin.1) ∧ (g2.ρ = g.ρ ∧ g2.fb = g.fb ∧ g2.mb = g.mb ∧ g2.dm = g.dm) := by
            first
            | exact ⟨_, begin_T (x := g.lv - 1) hf (by simpa using c32) g20 (by have := hld g20; simp at c32; omega) (by have := hld g20; omega), rfl, rfl, rfl, rfl⟩
            | exact ⟨_, begin_T (x := D.left) (dd := D.dead) hf (by simpa using c32) (by simpa using c32) (by have := hld (by simpa using c32); omega) (by have := hld (by simpa using c32); omega), rfl, rfl, rfl, rfl⟩
          exact ⟨g2, hq.1.2, hq.1.1, hq.2, hm0⟩
    ·
      refine LR.v (Y.move rfl rfl) (Wd.g rfl rfl rfl) rfl rfl ?_
      refine LR.v (Y.nilCheck rfl rfl) (Wd.g rfl rfl rfl) rfl rfl ?_
      refine LR.v (Y.fieldAddr hf.vb.pt rfl Tryz.runUnderlying73 rfl rfl Tryz.sizeOf3 (by decide) rfl) (Wd.g rfl rfl rfl) rfl rfl ?_
      refine LR.v (Y.load1 (hf.vb.pt.drop 4) rfl Tryz.isAgg3 rfl) (Wd.g rfl rfl rfl) rfl rfl ?_
      refine LR.v (Y.eql rfl rfl rfl) (Wd.g rfl rfl rfl) rfl rfl ?_
      refine LR.v (Y.pick_f rfl rfl rfl) (Wd.u rfl) rfl rfl ?_
      refine LR.v (Y.nilCheck rfl rfl) (Wd.u rfl) rfl rfl ?_
      refine LR.v (Y.fieldAddr hf.vb.pt rfl Tryz.runUnderlying73 rfl rfl Tryz.sizeOf4 (by decide) rfl) (Wd.u rfl) rfl rfl ?_
      refine LR.s (pd_dead hf _ (by intro h; first | exact g20 | cases h) rfl rfl rfl Tryz.sizeOf4) (Wd.u rfl) rfl (fun H3_14 r3_14 => ?_)
      obtain ⟨hf, hs3_14⟩ := r3_14
      replace hm0 := hm0.trL hs3_14 (MIL.ofK (nx_hm0_hf) (by intro k hk; simp [hk]))
      have hz4 := hs3_14.size
      have hbk_hf := hf.bk
      refine LR.nil ?_
      refine hK2 _ _ ?_
      refine CW.seq (fun K10 hK10 hE10 => ?_)
      refine CW.seq (fun K11 hK11 hE11 => ?_)
      refine CW.region ?_
      refine LR.v (Y.move rfl rfl) (Wd.u rfl) rfl rfl ?_
      refine LR.v (Y.nilCheck rfl rfl) (Wd.u rfl) rfl rfl ?_
      refine LR.v (Y.fieldAddr hf.vb.pt rfl Tryz.runUnderlying73 rfl rfl Tryz.sizeOf4 (by decide) rfl) (Wd.u rfl) rfl rfl ?_
      refine LR.v (Y.load1 (hf.vb.pt.drop 5) rfl Tryz.isAgg4 rfl) (Wd.u rfl) rfl rfl ?_
      refine LR.nil ?_
      refine hK11 _ _ ?_
      refine CW.cond rfl (fun c32 => ?_) (fun c32 => ?_)
      ·
        first
        | (simp at c32; done)
        | skip
          refine CW.seq (fun K12 hK12 hE12 => ?_)
          refine CW.region ?_
          refine LR.v (Y.assign rfl rfl) (Wd.u rfl) rfl rfl ?_
          refine LR.nil ?_
          refine hK12 _ _ ?_
          refine CW.ret (hE10 .ret nofun _ _ (hret .ret (.inr rfl) _ _ _ (res1 rfl rfl) ?_))
          have hq := begin_F hld hf (by first | rfl | exact c32) (by first | exact .inl g20 | exact .inr ⟨g20, by simp at c32; omega, by simp at c32; omega⟩)
          exact ⟨_, hq.2, hq.1, ⟨rfl, rfl, rfl, rfl⟩, hm0⟩
      ·
        first
        | (simp at c32; done)
        | skip
          refine CW.skip ?_
          refine hK10 _ _ ?_
          refine CW.seq (fun K13 hK13 hE13 => ?_)
          refine CW.region ?_
          refine LR.v (Y.move rfl rfl) (Wd.u rfl) rfl rfl ?_
          refine LR.v (Y.nilCheck rfl rfl) (Wd.u rfl) rfl rfl ?_
          refine LR.v (Y.fieldAddr hf.vb.pt rfl Tryz.runUnderlying73 rfl rfl Tryz.sizeOf71 (by decide) rfl) (Wd.u rfl) rfl rfl ?_
          -- call (*sync/atomic.Int64).Add
          refine LR.call rfl Tryz.call112 rfl (Wd.u rfl) rfl rfl (addD_ct w0 _ hf ho) (fun v36 H36 r36 => ?_)
          obtain ⟨rfl, hf, hs36⟩ := r36
          replace hm0 := hm0.trL hs36 (MIL.ofK (nx_hm0_hf) (by intro k hk; simp [hk]))
          have hz5 := hs36.size
          refine LR.nil ?_
          refine hK13 _ _ ?_
          refine CW.seq (fun K14 hK14 hE14 => ?_)
          refine CW.region ?_
          refine LR.v (Y.assign rfl rfl) (Wd.u rfl) rfl rfl ?_
          refine LR.nil ?_
          refine hK14 _ _ ?_
          refine CW.ret (hret .ret (.inr rfl) _ _ _ (res1 rfl rfl) ?_)
          obtain ⟨g2, hq⟩ : ∃ g2 : Gh, (PDk K g2 H36 b D.begin.2 ∧ .bool true = Value.bool D.begin.1) ∧ (g2.ρ = g.ρ ∧ g2.fb = g.fb ∧ g2.mb = g.mb ∧ g2.dm = g.dm) := by
            first
            | exact ⟨_, begin_T (x := g.lv - 1) hf (by simpa using c32) g20 (by have := hld g20; simp at c32; omega) (by have := hld g20; omega), rfl, rfl, rfl, rfl⟩
            | exact ⟨_, begin_T (x := D.left) (dd := D.dead) hf (by simpa using c32) (by simpa using c32) (by have := hld (by simpa using c32); omega) (by have := hld (by simpa using c32); omega), rfl, rfl, rfl, rfl⟩
          exact ⟨g2, hq.1.2, hq.1.1, hq.2, hm0⟩
  ·
    refine CW.skip ?_
    refine hK2 _ _ ?_
    refine CW.seq (fun K15 hK15 hE15 => ?_)
    refine CW.seq (fun K16 hK16 hE16 => ?_)
    refine CW.region ?_
    refine LR.v (Y.move rfl rfl) (Wd.u rfl) rfl rfl ?_
    refine LR.v (Y.nilCheck rfl rfl) (Wd.u rfl) rfl rfl ?_
    refine LR.v (Y.fieldAddr hf.vb.pt rfl Tryz.runUnderlying73 rfl rfl Tryz.sizeOf4 (by decide) rfl) (Wd.u rfl) rfl rfl ?_
    refine LR.v (Y.load1 (hf.vb.pt.drop 5) rfl Tryz.isAgg4 rfl) (Wd.u rfl) rfl rfl ?_
    refine LR.nil ?_
    refine hK16 _ _ ?_
    refine CW.cond rfl (fun c32 => ?_) (fun c32 => ?_)
    ·
      first
      | (simp at c32; done)
      | skip
        refine CW.seq (fun K17 hK17 hE17 => ?_)
        refine CW.region ?_
        refine LR.v (Y.assign rfl rfl) (Wd.u rfl) rfl rfl ?_
        refine LR.nil ?_
        refine hK17 _ _ ?_
        refine CW.ret (hE15 .ret nofun _ _ (hret .ret (.inr rfl) _ _ _ (res1 rfl rfl) ?_))
        have hq := begin_F (x := D.left) (dd := D.dead) hld hf (by simpa using c32) (.inl (by simpa using c32))
        exact ⟨_, hq.2, hq.1, ⟨rfl, rfl, rfl, rfl⟩, hm0⟩
    ·
      first
      | (simp at c32; done)
      | skip
        refine CW.skip ?_
        refine hK15 _ _ ?_
        refine CW.seq (fun K18 hK18 hE18 => ?_)
        refine CW.region ?_
        refine LR.v (Y.move rfl rfl) (Wd.u rfl) rfl rfl ?_
        refine LR.v (Y.nilCheck rfl rfl) (Wd.u rfl) rfl rfl ?_
        refine LR.v (Y.fieldAddr hf.vb.pt rfl Tryz.runUnderlying73 rfl rfl Tryz.sizeOf71 (by decide) rfl) (Wd.u rfl) rfl rfl ?_
        -- call (*sync/atomic.Int64).Add
        refine LR.call rfl Tryz.call112 rfl (Wd.u rfl) rfl rfl (addD_ct w0 _ hf ho) (fun v36 H36 r36 => ?_)
        obtain ⟨rfl, hf, hs36⟩ := r36
        replace hm0 := hm0.trL hs36 (MIL.ofK (nx_hm0_hf) (by intro k hk; simp [hk]))
        have hz6 := hs36.size
        refine LR.nil ?_
        refine hK18 _ _ ?_
        refine CW.seq (fun K19 hK19 hE19 => ?_)
        refine CW.region ?_
        refine LR.v (Y.assign rfl rfl) (Wd.u rfl) rfl rfl ?_
        refine LR.nil ?_
        refine hK19 _ _ ?_
        refine CW.ret (hret .ret (.inr rfl) _ _ _ (res1 rfl rfl) ?_)
        obtain ⟨g2, hq⟩ : ∃ g2 : Gh, (PDk K g2 H36 b D.begin.2 ∧ .bool true = Value.bool D.begin.1) ∧ (g2.ρ = g.ρ ∧ g2.fb = g.fb ∧ g2.mb = g.mb ∧ g2.dm = g.dm) := by
          first
          | exact ⟨_, begin_T (x := g.lv - 1) hf (by simpa using c32) g20 (by have := hld g20; simp at c32; omega) (by have := hld g20; omega), rfl, rfl, rfl, rfl⟩
          | exact ⟨_, begin_T (x := D.left) (dd := D.dead) hf (by simpa using c32) (by simpa using c32) (by have := hld (by simpa using c32); omega) (by have := hld (by simpa using c32); omega), rfl, rfl, rfl, rfl⟩
        exact ⟨g2, hq.1.2, hq.1.1, hq.2, hm0⟩


section
open Go.MapKept
variable {P : Program} {w0 : World} {n : Nat} {l : FL} {H : Heap} {o : Oper} {κ β : Type} [DecidableEq κ] {G : Nat → Prop} {fk : κ → Value} {fv : β → Value} {v : Value} {m : List (κ × β)} {d : TypeDesc}
/-- a map of pointers, asked for a key -/
theorem look_p {t kt et : TypeId} {x i : Operand} {k : κ} (ad : β → Addr) (h : MapOf G H fk fv v m) (hfv : ∀ b, fv b = .pointer (some (ad b))) (hfk : KeyFn d fk) (ho : o.op = .lookup t x i false) (hm : ∀ w, (underlying t).run P w = .ok (.map kt et) w) (hk : P.underlying kt = some d) (hz : ∀ w, (zeroValue et).run P w = .ok (.pointer none) w)
    (hx : opv l x = some v) (hi : opv l i = some (fk k)) : Y P w0 n l H o (.pointer ((mget m k).map ad)) := by
  intro a w hf ha
  have h1 := run_lookup (ok := false) (k := k) h hfk ha hm hk hz
  simp only [Bool.false_eq_true, if_false] at h1
  have h2 : (Instr.lookup t v (fk k) false).run P w = .ok (.pointer ((mget m k).map ad)) w := by
    rw [h1]
    cases mget m k with
    | none => rfl
    | some b => simp [hfv]
  simp [execOp, ho, hf.eval hx, hf.eval hi, h2]
end
abbrev adO (b : Nat) : Addr := ⟨b, 0, none⟩

theorem find_ct (mx_ : Int) (K : List Nat) (g : Gh) (b : Nat) (D : Dk) (p : Pth) (w0 : World) (H0 : Heap)
    (mx : MX mx_ H0) (bf_mx : BF (fun b => b = 0) H0.size) (hf : PDk K g H0 b D) (hl : p.length ≤ 4294967280) :
    Ct Tryz.prog w0 63 #[ptr b, Str p] H0 (fun r H2 => r = .tuple #[.pointer (fpt g.fb (if D.look p = 0 then mget D.now p else none)), .int .i64 (D.look p : Int)] ∧ Nw H0 H2) := by
  refine Ct.enter (args := [ptr b, Str p]) Tryz.func63 rfl rfl rfl ?_
  intro Q0 hret
  have hm0 : Nw H0 H0 := Mo.refl _ _
  have nx_hm0_hf := NxK.refl K H0.size
  have hbk_hf := hf.bk
  refine CW.seq (fun K1 hK1 hE1 => ?_)
  refine CW.region ?_
  refine LR.v (Y.assign rfl rfl) (Wd.u rfl) rfl rfl ?_
  refine LR.v (Y.assign rfl rfl) (Wd.u rfl) rfl rfl ?_
  refine LR.nil ?_
  refine hK1 _ _ ?_
  refine CW.seq (fun K2 hK2 hE2 => ?_)
  refine CW.seq (fun K3 hK3 hE3 => ?_)
  refine CW.region ?_
  refine LR.v (Y.move rfl rfl) (Wd.u rfl) rfl rfl ?_
  -- call selvage/simfs.Name
  refine LR.call rfl Tryz.call26 rfl (Wd.u rfl) rfl rfl (name_ct mx_ p w0 _ mx (bf_mx.mono (by omega)) hl) (fun v9 H9 r9 => ?_)
  obtain ⟨rfl, hs9⟩ := r9
  replace mx := mx.nw hs9
  replace hf := hf.nw hs9
  replace hm0 := hm0.tr hs9
  have hz1 := hs9.size
  refine LR.v (Y.not rfl rfl) (Wd.u rfl) rfl rfl ?_
  refine LR.nil ?_
  refine hK3 _ _ ?_
  refine CW.cond rfl (fun c10 => ?_) (fun c10 => ?_)
  ·
    refine CW.seq (fun K4 hK4 hE4 => ?_)
    refine CW.region ?_
    refine LR.v (Y.assign rfl rfl) (Wd.u rfl) rfl rfl ?_
    refine LR.v (Y.assign rfl rfl) (Wd.u rfl) rfl rfl ?_
    refine LR.nil ?_
    refine hK4 _ _ ?_
    refine CW.ret (hE2 .ret nofun _ _ (hret .ret (.inr rfl) _ _ _ (res2 rfl rfl rfl) ?_))
    have hk : D.look p = 7 := by
      unfold Dk.look
      rw [if_neg (by simpa using c10)]
    exact ⟨by rw [hk]; rfl, hm0⟩
  ·
    refine CW.skip ?_
    refine hK2 _ _ ?_
    refine CW.seq (fun K5 hK5 hE5 => ?_)
    refine CW.seq (fun K6 hK6 hE6 => ?_)
    refine CW.region_any (fun Hq => Nw H9 Hq) [] rfl ?_
    have hqs := Nw.refl H9
    refine LH.take 0 (by kernel_rfl) rfl (by kernel_rfl) (by kernel_rfl) (by kernel_rfl) (fun Hq hq => Y.move rfl rfl) (Wd.u rfl) rfl rfl hqs ?_
    refine LH.take 1 (by kernel_rfl) rfl (by kernel_rfl) (by kernel_rfl) (by kernel_rfl) (fun Hq hq => Y.nilCheck rfl rfl) (Wd.u rfl) rfl rfl hqs ?_
    refine LH.take 2 (by kernel_rfl) rfl (by kernel_rfl) (by kernel_rfl) (by kernel_rfl) (fun Hq hq => Y.fieldAddr (hf.vb.pt.nw hq) rfl Tryz.runUnderlying73 rfl rfl Tryz.sizeOf66 (by decide) rfl) (Wd.u rfl) rfl rfl hqs ?_
    refine LH.take 3 (by kernel_rfl) rfl (by kernel_rfl) (by kernel_rfl) (by kernel_rfl) (fun Hq hq => Y.load1 ((hf.vb.pt.drop 2).nw hq) rfl Tryz.isAgg66 rfl) (Wd.u rfl) rfl rfl hqs ?_
    refine LH.take 4 (by kernel_rfl) rfl (by kernel_rfl) (by kernel_rfl) (by kernel_rfl) (fun Hq hq => Y.move rfl rfl) (Wd.u rfl) rfl rfl hqs ?_
    refine LH.one (i := 5) (by kernel_rfl) ?_
    -- call selvage/simfs.Dir
    refine LO.call rfl rfl Tryz.call52 rfl (Wd.u rfl) rfl rfl (dir_ct mx_ p w0 _ mx (bf_mx.mono (by omega)) hl) (fun v16 H16 r16 => ?_)
    obtain ⟨rfl, hs16⟩ := r16
    replace mx := mx.nw hs16
    replace hf := hf.nw hs16
    replace hm0 := hm0.tr hs16
    have hz2 := hs16.size
    have hq16 := hqs.tr hs16
    refine ⟨.inr hq16, LH.narrow (SH2 := fun Hq => Nw H16 Hq) (fun Hq hq => hq16.tr hq) ?_⟩
    have hqn16 := Nw.refl H16
    refine LH.take 6 (by kernel_rfl) rfl (by kernel_rfl) (by kernel_rfl) (by kernel_rfl) (fun Hq hq => look_p adO (hf.hm.mo.nw hq) (fun _ => rfl) keyStr rfl Tryz.runUnderlying66 Tryz.underlying9 Tryz.zeroValue92 rfl rfl) (Wd.u rfl) rfl rfl hqn16 ?_
    refine LH.take 7 (by kernel_rfl) rfl (by kernel_rfl) (by kernel_rfl) (by kernel_rfl) (fun Hq hq => Y.assign rfl rfl) (Wd.u rfl) rfl rfl hqn16 ?_
    refine LH.done (by kernel_rfl) ?_
    have hqe := hqn16
    refine hK6 _ _ ?_
    refine CW.seq (fun K7 hK7 hE7 => ?_)
    refine CW.region ?_
    refine LR.v (Y.move rfl rfl) (Wd.u rfl) rfl rfl ?_
    refine LR.v (Y.pne rfl (by kernel_rfl) (by kernel_rfl) rfl rfl) (Wd.u rfl) rfl rfl ?_
    refine LR.nil ?_
    refine hK7 _ _ ?_
    refine CW.cond rfl (fun c19 => ?_) (fun c19 => ?_)
    ·
      obtain ⟨db, hdb⟩ : ∃ db, mget g.dm (dirP p) = some db := by
        cases hq : mget g.dm (dirP p) with
        | none => rw [hq] at c19; cases c19
        | some db => exact ⟨db, rfl⟩
      obtain ⟨nb, sb, kc, sv, nm, sm, hd⟩ := hf.dirs _ db hdb
      refine CW.seq (fun K8 hK8 hE8 => ?_)
      refine CW.region ?_
      refine LR.v (Y.cast (v2 := ptr db) (Y.move rfl rfl) (by rw [hdb]; rfl)) (Wd.u rfl) rfl rfl ?_
      refine LR.v (Y.nilCheck rfl rfl) (Wd.u rfl) rfl rfl ?_
      refine LR.v (Y.fieldAddr hd.vd.pt rfl Tryz.runUnderlying99 rfl rfl Tryz.sizeOf96 (by decide) rfl) (Wd.u rfl) rfl rfl ?_
      refine LR.v (Y.fieldAddr (hd.vd.pt.drop 0) rfl Tryz.runUnderlying96 rfl rfl Tryz.sizeOf94 (by decide) rfl) (Wd.u rfl) rfl rfl ?_
      refine LR.v (Y.load1 ((hd.vd.pt.drop 0).drop 0) rfl Tryz.isAgg94 rfl) (Wd.u rfl) rfl rfl ?_
      refine LR.v (Y.move rfl rfl) (Wd.u rfl) rfl rfl ?_
      refine LR.v (Y.cast (v2 := .pointer (fpt g.fb (mget D.now p))) (look_p (fun i => ⟨g.fb.getD i 0, 0, none⟩) hd.hn.mo (fun _ => rfl) keyStr rfl Tryz.runUnderlying94 Tryz.underlying9 Tryz.zeroValue101 rfl rfl) (by rw [hd.en p, if_pos rfl])) (Wd.u rfl) rfl rfl ?_
      refine LR.v (Y.assign rfl rfl) (Wd.u rfl) rfl rfl ?_
      refine LR.nil ?_
      refine hK8 _ _ ?_
      refine CW.seq (fun K9 hK9 hE9 => ?_)
      refine CW.region ?_
      refine LR.v (Y.move rfl rfl) (Wd.u rfl) rfl rfl ?_
      refine LR.v (Y.pne rfl (by kernel_rfl) (by kernel_rfl) rfl rfl) (Wd.u rfl) rfl rfl ?_
      refine LR.nil ?_
      refine hK9 _ _ ?_
      refine CW.cond rfl (fun c28 => ?_) (fun c28 => ?_)
      ·
        refine CW.seq (fun K10 hK10 hE10 => ?_)
        refine CW.region ?_
        refine LR.v (Y.move rfl rfl) (Wd.u rfl) rfl rfl ?_
        refine LR.v (Y.assign rfl rfl) (Wd.u rfl) rfl rfl ?_
        refine LR.v (Y.assign rfl rfl) (Wd.u rfl) rfl rfl ?_
        refine LR.nil ?_
        refine hK10 _ _ ?_
        refine CW.ret (hE5 .ret nofun _ _ (hret .ret (.inr rfl) _ _ _ (res2 rfl rfl rfl) ?_))
        have hk : D.look p = 0 := by
          unfold Dk.look
          rw [if_pos (by simpa using c10), if_pos (by cases hq : mget D.now p with
            | none => rw [hq] at c28; cases c28
            | some i => rfl)]
        exact ⟨by rw [hk, if_pos rfl]; rfl, hm0⟩
      ·
        refine CW.skip ?_
        refine hK5 _ _ ?_
        refine CW.seq (fun K11 hK11 hE11 => ?_)
        refine CW.region ?_
        refine LR.v (Y.assign rfl rfl) (Wd.u rfl) rfl rfl ?_
        refine LR.v (Y.assign rfl rfl) (Wd.u rfl) rfl rfl ?_
        refine LR.nil ?_
        refine hK11 _ _ ?_
        refine CW.ret (hret .ret (.inr rfl) _ _ _ (res2 rfl rfl rfl) ?_)
        have hk : D.look p = 2 := by
          unfold Dk.look
          rw [if_pos (by simpa using c10), if_neg]
          first
          | (cases hq : mget D.now p with
            | none => simp
            | some i => rw [hq] at c28; cases c28)
          | (have hnd : mget g.dm (dirP p) = none := (by cases hq : mget g.dm (dirP p) with
              | none => rfl
              | some db => rw [hq] at c19; cases c19)
             rw [((hf.abs _ hnd).1 p rfl).1]; simp)
        exact ⟨by rw [hk]; rfl, hm0⟩
    ·
      refine CW.skip ?_
      refine hK5 _ _ ?_
      refine CW.seq (fun K12 hK12 hE12 => ?_)
      refine CW.region ?_
      refine LR.v (Y.assign rfl rfl) (Wd.u rfl) rfl rfl ?_
      refine LR.v (Y.assign rfl rfl) (Wd.u rfl) rfl rfl ?_
      refine LR.nil ?_
      refine hK12 _ _ ?_
      refine CW.ret (hret .ret (.inr rfl) _ _ _ (res2 rfl rfl rfl) ?_)
      have hk : D.look p = 2 := by
        unfold Dk.look
        rw [if_pos (by simpa using c10), if_neg]
        first
        | (cases hq : mget D.now p with
          | none => simp
          | some i => rw [hq] at c28; cases c28)
        | (have hnd : mget g.dm (dirP p) = none := (by cases hq : mget g.dm (dirP p) with
            | none => rfl
            | some db => rw [hq] at c19; cases c19)
           rw [((hf.abs _ hnd).1 p rfl).1]; simp)
      exact ⟨by rw [hk]; rfl, hm0⟩

end Go.Proofs.YtdliddjkacbggaaGreatDoor.SimD
/-
  The disk: a new one, what is told of it.
-/
namespace Go.Proofs.YtdliddjkacbggaaGreatDoor.SimE
open Go.Proofs.YtdliddjkacbggaaGreatDoor.E Go.RowKit Go.Proofs.YtdliddjkacbggaaGreatDoor.SimA Go.Proofs.YtdliddjkacbggaaGreatDoor.SimB Go.Proofs.YtdliddjkacbggaaGreatDoor.SimC Go.Proofs.YtdliddjkacbggaaGreatDoor.SimD
set_option maxRecDepth 20000
set_option linter.unusedVariables false
set_option linter.unusedSimpArgs false
set_option linter.unusedSectionVars false

section
variable {H : Heap} {b mb : Nat}
theorem PDk.new (cap most : Nat) (hv : Var 73 H b [.int .i64 cap, .int .i64 most, .map (some mb), .int .i64 0, .int .i64 0, .bool false]) (hm : Mp H Str ptr mb ([] : List (Pth × Nat))) (hc : cap ≤ 9223372036854775807) (hk : most ≤ 9223372036854775807) (hne : b ≠ mb) :
    PDk [b + 1, mb + 1] ⟨upr (upr (fun _ => .out) mb .dirs) b .fs, [], mb, [], 0⟩ H b (Dk.empty cap most) where
  hK := hK_upr (hK_upr (K := []) (ρ := fun _ => .out) (fun c => by simp) (by simp)) (by simp)
  lt := lt_upr (lt_upr (H := H) (fun c h => absurd rfl h) (Nat.le_refl _) hm.lt) (Nat.le_refl _) hv.lt
  rb := upr_self
  vb := hv
  lvD := fun _ => rfl
  lvB := by simp
  capB := hc
  mostB := hk
  rm := by show upr (upr (fun _ => .out) mb .dirs) b .fs mb = _; rw [upr_ne (Ne.symm hne), upr_self]
  hm := hm
  dirs := fun p db e => (by cases e)
  abs := fun p _ => ⟨fun q _ => ⟨rfl, rfl⟩, rfl⟩
  len := rfl
  fil := fun i hi => (by simp [Dk.empty] at hi)
  ids := ⟨fun p i e => (by cases e), fun p i e => (by cases e), fun c hc => (by cases hc)⟩
  dml := Nat.le_refl _
end

theorem new_ct (cap most : Nat) (w0 : World) (H0 : Heap)
    (hc : cap ≤ 9223372036854775807) (hk : most ≤ 9223372036854775807) :
    Ct Tryz.prog w0 8 #[.int .i64 (cap : Int), .int .i64 (most : Int)] H0 (fun r H2 => ∃ K : List Nat, ∃ g : Gh, ∃ b : Nat, r = .tuple #[ptr b, .int .i64 0] ∧ (PDk K g H2 b (Dk.empty cap most)) ∧ (NxK [] H0.size K) ∧ Nw H0 H2) := by
  refine Ct.enter (args := [.int .i64 (cap : Int), .int .i64 (most : Int)]) Tryz.func8 rfl rfl rfl ?_
  intro Q0 hret
  have hm0 : Nw H0 H0 := Mo.refl _ _
  refine CW.seq (fun K1 hK1 hE1 => ?_)
  refine CW.region ?_
  refine LR.v (Y.assign rfl rfl) (Wd.u rfl) rfl rfl ?_
  refine LR.v (Y.assign rfl rfl) (Wd.u rfl) rfl rfl ?_
  refine LR.nil ?_
  refine hK1 _ _ ?_
  refine CW.seq (fun K2 hK2 hE2 => ?_)
  refine CW.seq (fun K3 hK3 hE3 => ?_)
  refine CW.region ?_
  refine LR.v (Y.move rfl rfl) (Wd.u rfl) rfl rfl ?_
  refine LR.v ((Y.lss rfl rfl rfl).isF (by omega)) (Wd.u rfl) rfl rfl ?_
  refine LR.v (Y.move rfl rfl) (Wd.u rfl) rfl rfl ?_
  refine LR.v (Y.move rfl rfl) (Wd.g rfl rfl rfl) rfl rfl ?_
  refine LR.v ((Y.lss rfl rfl rfl).isF (by omega)) (Wd.g rfl rfl rfl) rfl rfl ?_
  refine LR.v (Y.pick_f rfl rfl rfl) (Wd.u rfl) rfl rfl ?_
  refine LR.nil ?_
  refine hK3 _ _ ?_
  refine CW.cond_f rfl ?_
  refine CW.skip ?_
  refine hK2 _ _ ?_
  refine CW.seq (fun K4 hK4 hE4 => ?_)
  refine CW.region ?_
  refine LR.v (Y.move rfl rfl) (Wd.u rfl) rfl rfl ?_
  refine LR.v (Y.move rfl rfl) (Wd.u rfl) rfl rfl ?_
  refine LR.z (Z.makeMp Str ptr rfl) (Wd.u rfl) rfl rfl (fun v14 H14 r14 => ?_)
  obtain ⟨rfl, hmp, hs14, ob14, hH14⟩ := r14
  have hzs14 : H14.size = H0.size + 1 := by rw [hH14]; simp
  have nx1 : Nx 0 H0.size (H0.size + 1) := Nx.new hm0.size
  replace hm0 := hm0.tr hs14
  have hz1 := hs14.size
  have hlt_hmp := hmp.lt
  refine LR.v (Y.build (v := .agg #[.int .i64 cap, .int .i64 most, .map (some H0.size), .int .i64 0, .int .i64 0, .bool false]) rfl rfl (by intro w; kernel_rfl)) (Wd.u rfl) rfl rfl ?_
  refine LR.z (Z.boxv rfl rfl) (Wd.u rfl) rfl rfl (fun v16 H16 r16 => ?_)
  obtain ⟨rfl, hvb, hs16, ob16, hH16⟩ := r16
  have hzs16 : H16.size = H14.size + 1 := by rw [hH16]; simp
  have dj2 : Dj (H0.size + 1) (H14.size + 1) := Dj.new hmp.lt
  have nx3 : Nx 0 H0.size (H14.size + 1) := Nx.new hm0.size
  replace hmp := hmp.nw hs16
  replace hm0 := hm0.tr hs16
  have hz2 := hs16.size
  replace hvb : Var 73 H16 H14.size ([.int .i64 cap, .int .i64 most, .map (some H0.size), .int .i64 0, .int .i64 0, .bool false]) := hvb
  have dj4 : DL (H14.size + 1) ((H0.size + 1) :: []) := DL.cons (dj2.symm) (DL.nil)
  have nx5 := NxK.cons (nx1) (NxK.refl [] _)
  have nx6 := NxK.cons (nx3) (nx5)
  have hf := PDk.new cap most hvb hmp hc hk (by omega)
  have hbk_hf := hf.bk
  refine LR.v (Y.assign rfl rfl) (Wd.u rfl) rfl rfl ?_
  refine LR.v (Y.assign rfl rfl) (Wd.u rfl) rfl rfl ?_
  refine LR.nil ?_
  refine hK4 _ _ ?_
  refine CW.ret (hret .ret (.inr rfl) _ _ _ (res2 rfl rfl rfl) ?_)
  exact ⟨_, _, _, rfl, hf, nx6, hm0⟩

theorem newN_ct (a m : Int) (w0 : World) (H0 : Heap)
    (hn : a < 0 ∨ m < 0) :
    Ct Tryz.prog w0 8 #[.int .i64 a, .int .i64 m] H0 (fun r H2 => r = .tuple #[.pointer none, .int .i64 1] ∧ Nw H0 H2) := by
  refine Ct.enter (args := [.int .i64 a, .int .i64 m]) Tryz.func8 rfl rfl rfl ?_
  intro Q0 hret
  have hm0 : Nw H0 H0 := Mo.refl _ _
  refine CW.seq (fun K1 hK1 hE1 => ?_)
  refine CW.region ?_
  refine LR.v (Y.assign rfl rfl) (Wd.u rfl) rfl rfl ?_
  refine LR.v (Y.assign rfl rfl) (Wd.u rfl) rfl rfl ?_
  refine LR.nil ?_
  refine hK1 _ _ ?_
  refine CW.seq (fun K2 hK2 hE2 => ?_)
  refine CW.seq (fun K3 hK3 hE3 => ?_)
  refine CW.region ?_
  refine LR.v (Y.move rfl rfl) (Wd.u rfl) rfl rfl ?_
  refine LR.v (Y.lss rfl rfl rfl) (Wd.u rfl) rfl rfl ?_
  refine LR.v (Y.move rfl rfl) (Wd.u rfl) rfl rfl ?_
  refine LR.splitp (d := 8) rfl (fun g8 => ?_) (fun g8 => ?_)
  ·
    refine LR.gs rfl rfl rfl rfl rfl rfl ?_
    refine LR.gs rfl rfl rfl rfl rfl rfl ?_
    refine LR.v (Y.cast (v2 := .bool true) (Y.pick_t rfl rfl rfl) (by first | rfl | (congr 1; simp; omega))) (Wd.u rfl) rfl rfl ?_
    refine LR.nil ?_
    refine hK3 _ _ ?_
    refine CW.cond_t rfl ?_
    refine CW.seq (fun K4 hK4 hE4 => ?_)
    refine CW.region ?_
    refine LR.v (Y.assign rfl rfl) (Wd.u rfl) rfl rfl ?_
    refine LR.v (Y.assign rfl rfl) (Wd.u rfl) rfl rfl ?_
    refine LR.nil ?_
    refine hK4 _ _ ?_
    refine CW.ret (hE2 .ret nofun _ _ (hret .ret (.inr rfl) _ _ _ (res2 rfl rfl rfl) ?_))
    exact ⟨rfl, hm0⟩
  ·
    refine LR.v (Y.move rfl rfl) (Wd.g rfl rfl rfl) rfl rfl ?_
    refine LR.v (Y.lss rfl rfl rfl) (Wd.g rfl rfl rfl) rfl rfl ?_
    refine LR.v (Y.cast (v2 := .bool true) (Y.pick_f rfl rfl rfl) (by first | rfl | (congr 1; simp; omega))) (Wd.u rfl) rfl rfl ?_
    refine LR.nil ?_
    refine hK3 _ _ ?_
    refine CW.cond_t rfl ?_
    refine CW.seq (fun K5 hK5 hE5 => ?_)
    refine CW.region ?_
    refine LR.v (Y.assign rfl rfl) (Wd.u rfl) rfl rfl ?_
    refine LR.v (Y.assign rfl rfl) (Wd.u rfl) rfl rfl ?_
    refine LR.nil ?_
    refine hK5 _ _ ?_
    refine CW.ret (hE2 .ret nofun _ _ (hret .ret (.inr rfl) _ _ _ (res2 rfl rfl rfl) ?_))
    exact ⟨rfl, hm0⟩

theorem read_ct (mx_ : Int) (K : List Nat) (g : Gh) (b : Nat) (D : Dk) (p : Pth) (w0 : World) (H0 : Heap)
    (mx : MX mx_ H0) (bf_mx : BF (fun b => b = 0) H0.size) (hf : PDk K g H0 b D) (hl : p.length ≤ 4294967280) (hB : ∀ i, (fget D.fs i).now.length ≤ 1099511627776) :
    Ct Tryz.prog w0 23 #[ptr b, Str p] H0 (fun r H2 => ∃ s : SV, ∃ k : Nat, r = .tuple #[s.v, .int .i64 (D.readE p : Int)] ∧ (Ow k 5 H2 fB 1 s.v (D.readL p)) ∧ (Nx 0 H0.size k) ∧ Nw H0 H2) := by
  refine Ct.enter (args := [ptr b, Str p]) Tryz.func23 rfl rfl rfl ?_
  intro Q0 hret
  have hm0 : Nw H0 H0 := Mo.refl _ _
  have nx_hm0_hf := NxK.refl K H0.size
  have hbk_hf := hf.bk
  refine CW.seq (fun K1 hK1 hE1 => ?_)
  refine CW.region ?_
  refine LR.v (Y.assign rfl rfl) (Wd.u rfl) rfl rfl ?_
  refine LR.v (Y.assign rfl rfl) (Wd.u rfl) rfl rfl ?_
  refine LR.nil ?_
  refine hK1 _ _ ?_
  refine CW.seq (fun K2 hK2 hE2 => ?_)
  refine CW.seq (fun K3 hK3 hE3 => ?_)
  refine CW.region ?_
  refine LR.v (Y.move rfl rfl) (Wd.u rfl) rfl rfl ?_
  refine LR.v (Y.nilCheck rfl rfl) (Wd.u rfl) rfl rfl ?_
  refine LR.v (Y.fieldAddr hf.vb.pt rfl Tryz.runUnderlying73 rfl rfl Tryz.sizeOf4 (by decide) rfl) (Wd.u rfl) rfl rfl ?_
  refine LR.v (Y.load1 (hf.vb.pt.drop 5) rfl Tryz.isAgg4 rfl) (Wd.u rfl) rfl rfl ?_
  refine LR.nil ?_
  refine hK3 _ _ ?_
  refine CW.cond rfl (fun c11 => ?_) (fun c11 => ?_)
  ·
    refine CW.seq (fun K4 hK4 hE4 => ?_)
    refine CW.region ?_
    refine LR.v (Y.assign rfl rfl) (Wd.u rfl) rfl rfl ?_
    refine LR.v (Y.assign rfl rfl) (Wd.u rfl) rfl rfl ?_
    refine LR.nil ?_
    refine hK4 _ _ ?_
    refine CW.ret (hE2 .ret nofun _ _ (hret .ret (.inr rfl) _ _ _ (res2 rfl rfl rfl) ?_))
    have hE : D.readE p = 11 := by unfold Dk.readE; rw [if_pos c11]
    have hL : D.readL p = [] := by unfold Dk.readL; rw [if_neg (by rw [hE]; omega)]
    exact ⟨⟨none, 0, 0⟩, 0, by rw [hE]; rfl, by rw [hL]; exact Ow.nil fB_len fB_one, Nx.refl _ _, hm0⟩
  ·
    refine CW.skip ?_
    refine hK2 _ _ ?_
    refine CW.seq (fun K5 hK5 hE5 => ?_)
    refine CW.region ?_
    refine LR.v (Y.move rfl rfl) (Wd.u rfl) rfl rfl ?_
    refine LR.v (Y.move rfl rfl) (Wd.u rfl) rfl rfl ?_
    -- call (*selvage/simfs.FS).find
    refine LR.call rfl Tryz.call63 rfl (Wd.u rfl) rfl rfl (find_ct mx_ K g b D p w0 _ mx (bf_mx.mono (by omega)) hf hl) (fun v15 H15 r15 => ?_)
    obtain ⟨rfl, hs15⟩ := r15
    replace mx := mx.nw hs15
    replace hf := hf.nw hs15
    replace hm0 := hm0.tr hs15
    have hz1 := hs15.size
    refine LR.v (Y.move rfl rfl) (Wd.u rfl) rfl rfl ?_
    refine LR.v (Y.extract rfl rfl rfl) (Wd.u rfl) rfl rfl ?_
    refine LR.v (Y.extract rfl rfl rfl) (Wd.u rfl) rfl rfl ?_
    refine LR.v (Y.assign rfl rfl) (Wd.u rfl) rfl rfl ?_
    refine LR.v (Y.assign rfl rfl) (Wd.u rfl) rfl rfl ?_
    refine LR.nil ?_
    refine hK5 _ _ ?_
    refine CW.seq (fun K6 hK6 hE6 => ?_)
    refine CW.seq (fun K7 hK7 hE7 => ?_)
    refine CW.region ?_
    refine LR.v (Y.move rfl rfl) (Wd.u rfl) rfl rfl ?_
    refine LR.v (Y.neq rfl rfl rfl) (Wd.u rfl) rfl rfl ?_
    refine LR.nil ?_
    refine hK7 _ _ ?_
    refine CW.condp rfl (fun c19 => ?_) (fun c19 => ?_)
    ·
      refine CW.seq (fun K8 hK8 hE8 => ?_)
      refine CW.region ?_
      refine LR.v (Y.move rfl rfl) (Wd.u rfl) rfl rfl ?_
      refine LR.v (Y.assign rfl rfl) (Wd.u rfl) rfl rfl ?_
      refine LR.v (Y.assign rfl rfl) (Wd.u rfl) rfl rfl ?_
      refine LR.nil ?_
      refine hK8 _ _ ?_
      refine CW.ret (hE6 .ret nofun _ _ (hret .ret (.inr rfl) _ _ _ (res2 rfl rfl rfl) ?_))
      have hE : D.readE p = D.look p := by unfold Dk.readE; rw [if_neg (by simpa using c11)]
      have hL : D.readL p = [] := by unfold Dk.readL; rw [if_neg (by rw [hE]; omega)]
      exact ⟨⟨none, 0, 0⟩, 0, by rw [hE]; rfl, by rw [hL]; exact Ow.nil fB_len fB_one, Nx.refl _ _, hm0⟩
    ·
      have hk0 : D.look p = 0 := by omega
      obtain ⟨i, hi⟩ : ∃ i, mget D.now p = some i := by
        cases hq : mget D.now p with
        | some i => exact ⟨i, rfl⟩
        | none => exfalso; unfold Dk.look at hk0; rw [hq] at hk0; by_cases hn : nameB p = true <;> simp [hn] at hk0
      obtain ⟨nv, sv, wv, kw, lw, hfi⟩ := hf.fil i (hf.ids.1 p i hi)
      refine CW.skip ?_
      refine hK6 _ _ ?_
      refine CW.seq (fun K9 hK9 hE9 => ?_)
      refine CW.region ?_
      refine LR.v (Y.cast (v2 := fvl g.fb i) (Y.move rfl rfl) (by rw [if_pos hk0, hi]; rfl)) (Wd.u rfl) rfl rfl ?_
      refine LR.v (Y.nilCheck rfl rfl) (Wd.u rfl) rfl rfl ?_
      refine LR.v (Y.fieldAddr hfi.vf.pt rfl Tryz.runUnderlying112 rfl rfl Tryz.sizeOf109 (by decide) rfl) (Wd.u rfl) rfl rfl ?_
      refine LR.v (Y.fieldAddr (hfi.vf.pt.drop 0) rfl Tryz.runUnderlying109 rfl rfl Tryz.sizeOf34 (by decide) rfl) (Wd.u rfl) rfl rfl ?_
      refine LR.v (Y.load1 ((hfi.vf.pt.drop 0).drop 0) rfl Tryz.isAgg34 rfl) (Wd.u rfl) rfl rfl ?_
      -- call slices.Clone[[]byte,byte]
      refine LR.call rfl Tryz.call64 rfl (Wd.u rfl) rfl rfl (bclone_ct _ (fget D.fs i).now w0 _ hfi.hn.any (by have := hB i; omega)) (fun v26 H26 r26 => ?_)
      obtain ⟨s26, k26, rfl, ow26, hk26, hs26⟩ := r26
      have df1 := DF.app (DF.z) (bf_mx.mono hm0.size) hk26
      have dj2 : DL k26 K := DL.app2 (DL.zK) hf.bk hk26
      have nx3 : Nx 0 H0.size k26 := Nx.tr (Nx.refl 0 _) hk26 hm0.size
      replace mx := mx.nw hs26
      replace hf := hf.nw hs26
      replace hm0 := hm0.tr hs26
      have hz2 := hs26.size
      have hle_ow26 := ow26.le
      refine LR.v (Y.assign rfl rfl) (Wd.u rfl) rfl rfl ?_
      refine LR.v (Y.assign rfl rfl) (Wd.u rfl) rfl rfl ?_
      refine LR.nil ?_
      refine hK9 _ _ ?_
      refine CW.ret (hret .ret (.inr rfl) _ _ _ (res2 rfl rfl rfl) ?_)
      have hE : D.readE p = 0 := by unfold Dk.readE; rw [if_neg (by simpa using c11)]; exact hk0
      have hL : D.readL p = (fget D.fs i).now := by unfold Dk.readL Dk.wasL; rw [if_pos hE, hi]
      exact ⟨s26, k26, by rw [hE]; rfl, by rw [hL]; exact ow26, nx3, hm0⟩

theorem stop_ct (K : List Nat) (g : Gh) (b : Nat) (D : Dk) (n : Int) (w0 : World) (H0 : Heap)
    (hf : PDk K g H0 b D) (hn : n ≤ 9223372036854775807) :
    Ct Tryz.prog w0 14 #[ptr b, .int .i64 n] H0 (fun r H2 => ∃ g2 : Gh, r = .tuple #[] ∧ (PDk K g2 H2 b (D.stop n.toNat)) ∧ (g2.ρ = g.ρ ∧ g2.fb = g.fb ∧ g2.mb = g.mb ∧ g2.dm = g.dm) ∧ Mo (Ms K) H0 H2) := by
  refine Ct.enter (args := [ptr b, .int .i64 n]) Tryz.func14 rfl rfl rfl ?_
  intro Q0 hret
  have hm0 : Mo (Ms K) H0 H0 := Mo.refl _ _
  have nx_hm0_hf := NxK.refl K H0.size
  have hbk_hf := hf.bk
  refine CW.region ?_
  refine LR.v (Y.move rfl rfl) (Wd.u rfl) rfl rfl ?_
  refine LR.v (Y.move rfl rfl) (Wd.u rfl) rfl rfl ?_
  refine LR.v (Y.cast (v2 := .int .i64 (n.toNat : Int)) (Y.maxi rfl rfl rfl) (ivv (by omega))) (Wd.u rfl) rfl rfl ?_
  refine LR.v (Y.nilCheck rfl rfl) (Wd.u rfl) rfl rfl ?_
  refine LR.v (Y.fieldAddr hf.vb.pt rfl Tryz.runUnderlying73 rfl rfl Tryz.sizeOf3 (by decide) rfl) (Wd.u rfl) rfl rfl ?_
  refine LR.s (pd_left hf n.toNat rfl rfl rfl Tryz.sizeOf3 (by omega)) (Wd.u rfl) rfl (fun H0_5 r0_5 => ?_)
  obtain ⟨hf, hs0_5⟩ := r0_5
  replace hm0 := hm0.trL hs0_5 (MIL.ofK (nx_hm0_hf) (by intro k hk; simp [hk]))
  have hz1 := hs0_5.size
  have hbk_hf := hf.bk
  refine LR.nil ?_
  refine hret .normal (.inl rfl) _ _ _ (res0 rfl) ?_
  exact ⟨_, rfl, hf, ⟨rfl, rfl, rfl, rfl⟩, hm0⟩

end Go.Proofs.YtdliddjkacbggaaGreatDoor.SimE
/-
  The disk: how many bytes there are.
-/
namespace Go.Proofs.YtdliddjkacbggaaGreatDoor.SimF
open Go.Proofs.YtdliddjkacbggaaGreatDoor.E Go.RowKit Go.Proofs.YtdliddjkacbggaaGreatDoor.SimA Go.Proofs.YtdliddjkacbggaaGreatDoor.SimB Go.Proofs.YtdliddjkacbggaaGreatDoor.SimC Go.Proofs.YtdliddjkacbggaaGreatDoor.SimD Go.Proofs.YtdliddjkacbggaaGreatDoor.SimE
set_option maxRecDepth 20000
set_option linter.unusedVariables false
set_option linter.unusedSimpArgs false
set_option linter.unusedSectionVars false

/-- what is left to count -/
def rst (ks dn : List Pth) (w : Pth → Nat) : Nat := ((ks.filter (fun k => !decide (k ∈ dn))).map w).sum
theorem rst_nil (ks : List Pth) (w : Pth → Nat) : rst ks [] w = (ks.map w).sum := by
  unfold rst; rw [List.filter_eq_self.2 (fun k _ => by simp)]
theorem rst_end {ks dn : List Pth} {w : Pth → Nat} (h : ∀ k ∈ ks, k ∈ dn) : rst ks dn w = 0 := by
  unfold rst; rw [List.filter_eq_nil_iff.2 (fun k hk => by simp [h k hk])]; rfl
theorem rst_step {w : Pth → Nat} {k : Pth} {dn : List Pth} (hd : k ∉ dn) : ∀ {ks : List Pth}, ks.Nodup → k ∈ ks → rst ks dn w = w k + rst ks (dn ++ [k]) w
  | [], _, h => by cases h
  | x :: ks, hn, h => by
    rw [List.nodup_cons] at hn
    unfold rst
    by_cases hx : x = k
    · subst hx
      have e : (x :: ks).filter (fun q => !decide (q ∈ dn ++ [x])) = ks.filter (fun q => !decide (q ∈ dn)) := by
        rw [List.filter_cons_of_neg (by simp)]
        refine List.filter_congr (fun q hq => ?_)
        have : q ≠ x := fun e => hn.1 (by rw [← e]; exact hq)
        simp [this]
      rw [e, List.filter_cons_of_pos (by simp [hd]), List.map_cons, List.sum_cons]
    · have hk : k ∈ ks := by
        rcases List.mem_cons.1 h with e | h
        · exact absurd e.symm hx
        · exact h
      have ih := rst_step (w := w) (dn := dn) hd hn.2 hk
      unfold rst at ih
      by_cases hxd : x ∈ dn
      · rw [List.filter_cons_of_neg (by simp [hxd]), List.filter_cons_of_neg (by simp [hxd])]; exact ih
      · rw [List.filter_cons_of_pos (by simp [hxd]), List.filter_cons_of_pos (by simp [hxd, hx]), List.map_cons, List.map_cons, List.sum_cons, List.sum_cons, ih]; omega
/-- the bytes of one directory's files -/
def dirS (D : Dk) (d : Pth) : Nat := usedL D.fs (D.now.filter (fun x => dirP x.1 = d))
theorem sum_if (ks : List Pth) (hn : ks.Nodup) (d : Pth) (a : Nat) : d ∈ ks → (ks.map (fun k => if d = k then a else 0)).sum = a := by
  induction ks with
  | nil => intro h; cases h
  | cons x ks ih =>
    intro h
    rw [List.nodup_cons] at hn
    rw [List.map_cons, List.sum_cons]
    by_cases hx : d = x
    · subst hx
      rw [if_pos rfl]
      have : (ks.map (fun k => if d = k then a else 0)).sum = 0 := by
        have : ks.map (fun k => if d = k then a else 0) = ks.map (fun _ => 0) := List.map_congr_left (fun k hk => if_neg (fun e => hn.1 (by rw [e]; exact hk)))
        rw [this]
        clear this ih hn h
        induction ks with
        | nil => rfl
        | cons x ks ih => rw [List.map_cons, List.sum_cons, ih]
      omega
    · rw [if_neg hx, ih hn.2 (by
        rcases List.mem_cons.1 h with e | h
        · exact absurd e hx
        · exact h)]; omega
theorem sum_add (ks : List Pth) (f g : Pth → Nat) : (ks.map (fun k => f k + g k)).sum = (ks.map f).sum + (ks.map g).sum := by
  induction ks with
  | nil => rfl
  | cons x ks ih => simp only [List.map_cons, List.sum_cons, ih]; omega
theorem dirS_all (fs : List Fdt) (ks : List Pth) (hn : ks.Nodup) : ∀ l : Nms, (∀ x ∈ l, dirP x.1 ∈ ks) → (ks.map (fun d => usedL fs (l.filter (fun x => dirP x.1 = d)))).sum = usedL fs l
  | [], _ => by
    have : ks.map (fun d => usedL fs (([] : Nms).filter (fun x => dirP x.1 = d))) = ks.map (fun _ => 0) := List.map_congr_left (fun k _ => rfl)
    rw [this]
    clear this hn
    rename_i hh
    clear hh
    induction ks with
    | nil => rfl
    | cons x ks ih => rw [List.map_cons, List.sum_cons, ih]; rfl
  | x :: l, h => by
    have ih := dirS_all fs ks hn l (fun y hy => h y (List.mem_cons_of_mem _ hy))
    have e : ks.map (fun d => usedL fs ((x :: l).filter (fun x => dirP x.1 = d))) = ks.map (fun d => (if dirP x.1 = d then (fget fs x.2).now.length else 0) + usedL fs (l.filter (fun x => dirP x.1 = d))) := by
      refine List.map_congr_left (fun k _ => ?_)
      by_cases hx : dirP x.1 = k
      · rw [List.filter_cons_of_pos (by simpa using hx), if_pos hx]; simp [usedL]
      · rw [List.filter_cons_of_neg (by simpa using hx), if_neg hx]; simp
    rw [e, sum_add, sum_if ks hn _ _ (h x List.mem_cons_self), ih]
    simp [usedL]
theorem names_sum {D : Dk} {nm : Nms} {d : Pth} (hA : Asc D.now) (hn : (nm.map (·.1)).Nodup) (he : ∀ q, mget nm q = if dirP q = d then mget D.now q else none) : ((nm.map (·.1)).map (fun q => (D.wasL q).length)).sum = dirS D d := by
  have hF : Asc (D.now.filter (fun x => decide (dirP x.1 = d))) := hA.filter _
  have hp : (nm.map (·.1)).Perm ((D.now.filter (fun x => decide (dirP x.1 = d))).map (·.1)) := (List.perm_ext_iff_of_nodup hn hF.nodup).2 (fun q => by
    rw [← isSome_iff_key, ← isSome_iff_key, he, mget_filter (f := fun p => decide (dirP p = d))]
    by_cases h : dirP q = d <;> simp [h])
  rw [(hp.map _).sum_nat]
  unfold dirS usedL
  rw [List.map_map]
  congr 1
  refine List.map_congr_left (fun x hx => ?_)
  have := mget_of_mem hA.nodup (show (x.1, x.2) ∈ D.now from (List.mem_filter.1 hx).1)
  simp only [Function.comp, Dk.wasL, this]
theorem used_all {K : List Nat} {g : Gh} {H : Heap} {b : Nat} {D : Dk} (hf : PDk K g H b D) (hA : Asc D.now) : ((g.dm.map (·.1)).map (dirS D)).sum = D.used :=
  dirS_all D.fs _ hf.hm.mo.nodup D.now (fun x hx => by
    have h1 := mget_of_mem hA.nodup (show (x.1, x.2) ∈ D.now from hx)
    rw [← isSome_iff_key]
    cases hq : mget g.dm (dirP x.1) with
    | some _ => rfl
    | none => rw [((hf.abs _ hq).1 x.1 rfl).1] at h1; cases h1)


theorem nodup_le {α : Type} [DecidableEq α] : ∀ {a b : List α}, a.Nodup → (∀ k ∈ a, k ∈ b) → a.length ≤ b.length
  | [], b, _, _ => Nat.zero_le _
  | x :: a, b, hn, hs => by
    rw [List.nodup_cons] at hn
    have h := nodup_le (b := b.erase x) hn.2 (fun k hk => (List.mem_erase_of_ne (fun e => hn.1 (by rw [← e]; exact hk))).2 (hs k (List.mem_cons_of_mem _ hk)))
    have hx := hs x List.mem_cons_self
    rw [List.length_erase_of_mem hx] at h
    have := List.length_pos_of_mem hx
    simp only [List.length_cons]; omega

set_option maxHeartbeats 2000000 in
theorem used_ct (K : List Nat) (g : Gh) (b : Nat) (D : Dk) (w0 : World) (H0 : Heap)
    (hf : PDk K g H0 b D) (hA : Asc D.now) (hU : D.used ≤ 4611686018427387904) :
    Ct Tryz.prog w0 113 #[ptr b] H0 (fun r H2 => r = .int .i64 (D.used : Int) ∧ Nw H0 H2) := by
  refine Ct.enter (args := [ptr b]) Tryz.func113 rfl rfl rfl ?_
  intro Q0 hret
  have hm0 : Nw H0 H0 := Mo.refl _ _
  have nx_hm0_hf := NxK.refl K H0.size
  have hbk_hf := hf.bk
  refine CW.seq (fun K1 hK1 hE1 => ?_)
  refine CW.region ?_
  refine LR.v (Y.assign rfl rfl) (Wd.u rfl) rfl rfl ?_
  refine LR.nil ?_
  refine hK1 _ _ ?_
  refine CW.seq (fun K2 hK2 hE2 => ?_)
  refine CW.region ?_
  refine LR.v (Y.assign rfl rfl) (Wd.u rfl) rfl rfl ?_
  refine LR.nil ?_
  refine hK2 _ _ ?_
  refine CW.seq (fun K3 hK3 hE3 => ?_)
  refine CW.seq (fun K4 hK4 hE4 => ?_)
  refine CW.region ?_
  refine LR.v (Y.move rfl rfl) (Wd.u rfl) rfl rfl ?_
  refine LR.v (Y.nilCheck rfl rfl) (Wd.u rfl) rfl rfl ?_
  refine LR.v (Y.fieldAddr hf.vb.pt rfl Tryz.runUnderlying73 rfl rfl Tryz.sizeOf66 (by decide) rfl) (Wd.u rfl) rfl rfl ?_
  refine LR.v (Y.load1 (hf.vb.pt.drop 2) rfl Tryz.isAgg66 rfl) (Wd.u rfl) rfl rfl ?_
  have hmo := hf.hm
  have hlt_hmo := hmo.lt
  obtain ⟨es, ck, hmo⟩ := hmo.raw
  refine LR.z (Z.rangeA hmo rfl Tryz.runUnderlying66 rfl) (Wd.u rfl) rfl rfl (fun v12 H12 r12 => ?_)
  obtain ⟨rfl, it, hs12, ob12, hH12⟩ := r12
  have hzs12 : H12.size = H0.size + 1 := by rw [hH12]; simp
  have dj1 : DL (H0.size + 1) K := DL.newK hf.bk
  have dj2 : Dj (g.mb + 1) (H0.size + 1) := Dj.new hmo.lt
  have nx3 : Nx 0 H0.size (H0.size + 1) := Nx.new hm0.size
  replace hf := hf.nw hs12
  replace hmo := hmo.nw hs12
  replace hm0 := hm0.tr hs12
  have hz1 := hs12.size
  have hlt_it := it.lt
  refine LR.nil ?_
  refine hK4 _ _ ?_
  refine CW.block (fun K5 hK5 hX5 hE5 => ?_)
  refine CW.loop (fun (s_ : (List Pth) × (Nat)) => match s_ with | (da, n) => [(3, .int .i64 (n : Int)), (12, .pointer (some ⟨H0.size, 0, none⟩))])
    (fun (s_ : (List Pth) × (Nat)) (H : Heap) => match s_ with | (da, n) => (Itr H H0.size g.mb Str es ck da) ∧ (da.Nodup ∧ ∀ k ∈ da, k ∈ g.dm.map (·.1)) ∧ (n + rst (g.dm.map (·.1)) da (dirS D) = D.used) ∧ Mo (Ms [(H0.size + 1)]) H12 H)
    (fun (s_ : (List Pth) × (Nat)) => match s_ with | (da, n) => g.dm.length - da.length) ([], 0) ⟨rfl, rfl, trivial⟩ ?_ ?_
  ·
    exact ⟨it, ⟨List.nodup_nil, by simp⟩, by rw [rst_nil, used_all hf hA]; omega, Mo.refl _ _⟩
  rintro ⟨da, n⟩ HL1 hI1 K6 hN6 hE6
  obtain ⟨it, hda, hsum, hlm1⟩ := hI1
  replace hf := hf.upL hlm1 (DKL.cons dj1 DKL.nil)
  replace hmo := hmo.upL hlm1 (DL.cons dj2 DL.nil)
  replace hm0 := (Mo.trL (ks := []) (hm0.mdn []) hlm1 (MIL.cons (MI.app MI.z (nx3) (Nat.le_refl _)) MIL.nil)).nil
  have hz2 := hlm1.size
  have nx_hlm1_it := Nx.refl (H0.size + 1) H12.size
  have hdl := nodup_le hda.1 hda.2
  rw [List.length_map] at hdl
  refine CW.seq (fun K7 hK7 hE7 => ?_)
  refine CW.region ?_
  refine LR.z (Z.nextA it hmo keyStr.inj rfl rfl) (Wd.u rfl) rfl rfl (fun v13 H13 r13 => ?_)
  obtain ⟨qb, d, db, dn1, rfl, it, hT13, hF13, hs13⟩ := r13
  replace hs13 := hs13.md1
  replace hf := hf.upL hs13 (DKL.cons dj1 DKL.nil)
  replace hmo := hmo.upL hs13 (DL.cons dj2 DL.nil)
  replace hm0 := (Mo.trL (ks := []) (hm0.mdn []) hs13 (MIL.cons (MI.app MI.z (nx3) (Nat.le_refl _)) MIL.nil)).nil
  replace hlm1 := hlm1.trL hs13 (MIL.cons (MI.app (MI.root (by simp)) (nx_hlm1_it) (Nat.le_refl _)) MIL.nil)
  have hz3 := hs13.size
  refine LR.v (Y.ext0 rfl rfl) (Wd.u rfl) rfl rfl ?_
  refine LR.nil ?_
  refine hK7 _ _ ?_
  refine CW.seq (fun K8 hK8 hE8 => ?_)
  refine CW.cond rfl (fun c14 => ?_) (fun c14 => ?_)
  ·
    obtain ⟨hxy, hnd, hdq⟩ := hT13 c14
    rw [hdq] at it
    have hdb := mget_of_mem hmo.mo.nodup hxy
    obtain ⟨nb, sb, kc, sv, nm, sm, hd⟩ := hf.dirs _ db hdb
    have hxd := hxy
    have hndd := hnd
    have hrs : rst (g.dm.map (·.1)) da (dirS D) = dirS D d + rst (g.dm.map (·.1)) (da ++ [d]) (dirS D) := rst_step (w := dirS D) hnd hmo.mo.nodup (List.mem_map.2 ⟨_, hxy, rfl⟩)
    refine CW.skip ?_
    refine hK8 _ _ ?_
    refine CW.block (fun K9 hK9 hX9 hE9 => ?_)
    refine CW.seq (fun K10 hK10 hE10 => ?_)
    refine CW.region ?_
    refine LR.v (Y.entryA it hmo keyStr.inj hxy rfl rfl) (Wd.u rfl) rfl rfl ?_
    refine LR.v (Y.extract rfl rfl rfl) (Wd.u rfl) rfl rfl ?_
    refine LR.v (Y.assign rfl rfl) (Wd.u rfl) rfl rfl ?_
    refine LR.nil ?_
    refine hK10 _ _ ?_
    refine CW.seq (fun K11 hK11 hE11 => ?_)
    refine CW.region ?_
    refine LR.v (Y.move rfl rfl) (Wd.u rfl) rfl rfl ?_
    refine LR.v (Y.nilCheck rfl rfl) (Wd.u rfl) rfl rfl ?_
    refine LR.v (Y.fieldAddr hd.vd.pt rfl Tryz.runUnderlying99 rfl rfl Tryz.sizeOf96 (by decide) rfl) (Wd.u rfl) rfl rfl ?_
    refine LR.v (Y.fieldAddr (hd.vd.pt.drop 0) rfl Tryz.runUnderlying96 rfl rfl Tryz.sizeOf94 (by decide) rfl) (Wd.u rfl) rfl rfl ?_
    refine LR.v (Y.load1 ((hd.vd.pt.drop 0).drop 0) rfl Tryz.isAgg94 rfl) (Wd.u rfl) rfl rfl ?_
    have hmn := hd.hn
    have hlt_hmn := hmn.lt
    obtain ⟨es2, ck2, hmn⟩ := hmn.raw
    refine LR.z (Z.rangeA hmn rfl Tryz.runUnderlying94 rfl) (Wd.u rfl) rfl rfl (fun v22 H22 r22 => ?_)
    obtain ⟨rfl, it2, hs22, ob22, hH22⟩ := r22
    have hzs22 : H22.size = H13.size + 1 := by rw [hH22]; simp
    have dj4 : DL (H13.size + 1) K := DL.newK hf.bk
    have dj5 : Dj (g.mb + 1) (H13.size + 1) := Dj.new hmo.lt
    have dj6 : Dj (H0.size + 1) (H13.size + 1) := Dj.new it.lt
    have dj7 : Dj (nb + 1) (H13.size + 1) := Dj.new hmn.lt
    have nx8 : Nx 0 H0.size (H13.size + 1) := Nx.new hm0.size
    have nx9 : Nx 0 H12.size (H13.size + 1) := Nx.new hlm1.size
    replace hf := hf.nw hs22
    replace hmo := hmo.nw hs22
    replace it := it.nw hs22
    replace hmn := hmn.nw hs22
    replace hm0 := hm0.tr hs22
    replace hlm1 := hlm1.trN hs22
    have hz4 := hs22.size
    have hlt_it2 := it2.lt
    refine LR.nil ?_
    refine hK11 _ _ ?_
    refine CW.block (fun K12 hK12 hX12 hE12 => ?_)
    refine CW.loop (fun (s_ : (List Pth) × (Nat)) => match s_ with | (dn, m) => [(3, .int .i64 (m : Int)), (12, .pointer (some ⟨H0.size, 0, none⟩)), (22, .pointer (some ⟨H13.size, 0, none⟩))])
      (fun (s_ : (List Pth) × (Nat)) (H : Heap) => match s_ with | (dn, m) => (Itr H H13.size nb Str es2 ck2 dn) ∧ (dn.Nodup ∧ ∀ k ∈ dn, k ∈ nm.map (·.1)) ∧ (m + rst (nm.map (·.1)) dn (fun q => (D.wasL q).length) + rst (g.dm.map (·.1)) (da ++ [d]) (dirS D) = D.used) ∧ Mo (Ms [(H13.size + 1)]) H22 H)
      (fun (s_ : (List Pth) × (Nat)) => match s_ with | (dn, m) => nm.length - dn.length) ([], n) ⟨rfl, rfl, rfl, trivial⟩ ?_ ?_
    ·
      exact ⟨it2, ⟨List.nodup_nil, by simp⟩, by rw [rst_nil, names_sum hA hmn.mo.nodup hd.en]; omega, Mo.refl _ _⟩
    rintro ⟨dn, m⟩ HL2 hI2 K13 hN13 hE13
    obtain ⟨it2, hdn, hsum2, hlm2⟩ := hI2
    replace hf := hf.upL hlm2 (DKL.cons dj4 DKL.nil)
    replace hmo := hmo.upL hlm2 (DL.cons dj5 DL.nil)
    replace it := it.upL hlm2 (DL.cons dj6 DL.nil)
    replace hmn := hmn.upL hlm2 (DL.cons dj7 DL.nil)
    replace hm0 := (Mo.trL (ks := []) (hm0.mdn []) hlm2 (MIL.cons (MI.app MI.z (nx8) (Nat.le_refl _)) MIL.nil)).nil
    replace hlm1 := hlm1.trL hlm2 (MIL.cons (MI.app MI.z (nx9) (Nat.le_refl _)) MIL.nil)
    have hz5 := hlm2.size
    have nx_hlm2_it2 := Nx.refl (H13.size + 1) H22.size
    have hdl := nodup_le hdn.1 hdn.2
    rw [List.length_map] at hdl
    refine CW.seq (fun K14 hK14 hE14 => ?_)
    refine CW.region ?_
    refine LR.z (Z.nextA it2 hmn keyStr.inj rfl rfl) (Wd.u rfl) rfl rfl (fun v23 H23 r23 => ?_)
    obtain ⟨qc, q, i, dn2, rfl, it2, hT23, hF23, hs23⟩ := r23
    replace hs23 := hs23.md1
    replace hf := hf.upL hs23 (DKL.cons dj4 DKL.nil)
    replace hmo := hmo.upL hs23 (DL.cons dj5 DL.nil)
    replace it := it.upL hs23 (DL.cons dj6 DL.nil)
    replace hmn := hmn.upL hs23 (DL.cons dj7 DL.nil)
    replace hm0 := (Mo.trL (ks := []) (hm0.mdn []) hs23 (MIL.cons (MI.app MI.z (nx8) (Nat.le_refl _)) MIL.nil)).nil
    replace hlm1 := hlm1.trL hs23 (MIL.cons (MI.app MI.z (nx9) (Nat.le_refl _)) MIL.nil)
    replace hlm2 := hlm2.trL hs23 (MIL.cons (MI.app (MI.root (by simp)) (nx_hlm2_it2) (Nat.le_refl _)) MIL.nil)
    have hz6 := hs23.size
    refine LR.v (Y.ext0 rfl rfl) (Wd.u rfl) rfl rfl ?_
    refine LR.nil ?_
    refine hK14 _ _ ?_
    refine CW.seq (fun K15 hK15 hE15 => ?_)
    refine CW.cond rfl (fun c24 => ?_) (fun c24 => ?_)
    ·
      obtain ⟨hxy, hnd, hdq⟩ := hT23 c24
      rw [hdq] at it2
      have hqi := mget_of_mem hmn.mo.nodup hxy
      rw [hd.en] at hqi
      have hqi : mget D.now q = some i := by
        split at hqi
        · exact hqi
        · cases hqi
      obtain ⟨nv, sv2, wv, kw, lw, hfi⟩ := hf.fil i (hf.ids.1 q i hqi)
      have hrs2 : rst (nm.map (·.1)) dn (fun q => (D.wasL q).length) = (D.wasL q).length + rst (nm.map (·.1)) (dn ++ [q]) (fun q => (D.wasL q).length) := rst_step (w := fun q => (D.wasL q).length) hnd hmn.mo.nodup (List.mem_map.2 ⟨_, hxy, rfl⟩)
      have hwl : D.wasL q = (fget D.fs i).now := by unfold Dk.wasL; rw [hqi]
      refine CW.skip ?_
      refine hK15 _ _ ?_
      refine CW.block (fun K16 hK16 hX16 hE16 => ?_)
      refine CW.seq (fun K17 hK17 hE17 => ?_)
      refine CW.region ?_
      refine LR.v (Y.entryA it2 hmn keyStr.inj hxy rfl rfl) (Wd.u rfl) rfl rfl ?_
      refine LR.v (Y.extract rfl rfl rfl) (Wd.u rfl) rfl rfl ?_
      refine LR.v (Y.assign rfl rfl) (Wd.u rfl) rfl rfl ?_
      refine LR.nil ?_
      refine hK17 _ _ ?_
      refine CW.region ?_
      refine LR.v (Y.move rfl rfl) (Wd.u rfl) rfl rfl ?_
      refine LR.v (Y.move rfl rfl) (Wd.u rfl) rfl rfl ?_
      refine LR.v (Y.nilCheck rfl rfl) (Wd.u rfl) rfl rfl ?_
      refine LR.v (Y.fieldAddr hfi.vf.pt rfl Tryz.runUnderlying112 rfl rfl Tryz.sizeOf109 (by decide) rfl) (Wd.u rfl) rfl rfl ?_
      refine LR.v (Y.fieldAddr (hfi.vf.pt.drop 0) rfl Tryz.runUnderlying109 rfl rfl Tryz.sizeOf34 (by decide) rfl) (Wd.u rfl) rfl rfl ?_
      refine LR.v (Y.load1 ((hfi.vf.pt.drop 0).drop 0) rfl Tryz.isAgg34 rfl) (Wd.u rfl) rfl rfl ?_
      refine LR.v (Y.len hfi.hn rfl Tryz.runUnderlying34 rfl) (Wd.u rfl) rfl rfl ?_
      refine LR.v (Y.cast (v2 := .int .i64 ((m + (D.wasL q).length : Nat) : Int)) (Y.addi rfl rfl rfl (by rw [hwl] at hrs2; omega)) (ivv (by rw [hwl]; omega))) (Wd.u rfl) rfl rfl ?_
      refine LR.v (Y.assign rfl rfl) (Wd.u rfl) rfl rfl ?_
      refine LR.nil ?_
      refine hK16 _ _ ?_
      have hdn2 : (dn ++ [q]).Nodup ∧ ∀ k ∈ dn ++ [q], k ∈ nm.map (·.1) := by
        refine ⟨?_, fun k hk => ?_⟩
        · rw [List.nodup_append]
          exact ⟨hdn.1, by simp, fun a ha b hb e => by simp only [List.mem_singleton] at hb; subst hb; subst e; exact hnd ha⟩
        · rcases List.mem_append.1 hk with h | h
          · exact hdn.2 k h
          · rw [List.mem_singleton.1 h]; exact List.mem_map.2 ⟨_, hxy, rfl⟩
      have hdl2 := nodup_le hdn2.1 hdn2.2
      rw [List.length_append, List.length_singleton, List.length_map] at hdl2
      refine QN.sub (hN13 (dn ++ [q], m + (D.wasL q).length) _ ?_ ?_) ⟨(iv (by omega)), rfl, rfl, trivial⟩
      · exact ⟨it2, hdn2, by rw [hrs2, ← Nat.add_assoc] at hsum2; exact hsum2, hlm2⟩
      · simp only [List.length_append, List.length_singleton]; omega
    ·
      obtain ⟨hall, _⟩ := hF23 c24
      have hre : rst (nm.map (·.1)) dn (fun q => (D.wasL q).length) = 0 := rst_end (fun k hk => by obtain ⟨p, hp, rfl⟩ := List.mem_map.1 hk; exact hall p hp)
      refine CW.exit (hE15 (.exit 2) nofun _ _ (hE13 (.exit 2) nofun _ _ (hX12 _ _ ?_)))
      refine hK9 _ _ ?_
      have hda2 : (da ++ [d]).Nodup ∧ ∀ k ∈ da ++ [d], k ∈ g.dm.map (·.1) := by
        refine ⟨?_, fun k hk => ?_⟩
        · rw [List.nodup_append]
          exact ⟨hda.1, by simp, fun a ha b hb e => by simp only [List.mem_singleton] at hb; subst hb; subst e; exact hndd ha⟩
        · rcases List.mem_append.1 hk with h | h
          · exact hda.2 k h
          · rw [List.mem_singleton.1 h]; exact List.mem_map.2 ⟨_, hxd, rfl⟩
      have hdl2 := nodup_le hda2.1 hda2.2
      rw [List.length_append, List.length_singleton, List.length_map] at hdl2
      refine QN.sub (hN6 (da ++ [d], m) _ ?_ ?_) ⟨(iv (by omega)), rfl, trivial⟩
      · exact ⟨it, hda2, by rw [hre, Nat.add_zero] at hsum2; exact hsum2, hlm1⟩
      · simp only [List.length_append, List.length_singleton]; omega
  ·
    obtain ⟨hall, _⟩ := hF13 c14
    have hre : rst (g.dm.map (·.1)) da (dirS D) = 0 := rst_end (fun k hk => by obtain ⟨p, hp, rfl⟩ := List.mem_map.1 hk; exact hall p hp)
    refine CW.exit (hE8 (.exit 0) nofun _ _ (hE6 (.exit 0) nofun _ _ (hX5 _ _ ?_)))
    refine hK3 _ _ ?_
    refine CW.seq (fun K18 hK18 hE18 => ?_)
    refine CW.region ?_
    refine LR.v (Y.move rfl rfl) (Wd.u rfl) rfl rfl ?_
    refine LR.v (Y.assign rfl rfl) (Wd.u rfl) rfl rfl ?_
    refine LR.nil ?_
    refine hK18 _ _ ?_
    refine CW.ret (hret .ret (.inr rfl) _ _ _ (res1 rfl rfl) ?_)
    exact ⟨by rw [show n = D.used by omega], hm0⟩

end Go.Proofs.YtdliddjkacbggaaGreatDoor.SimF
/-
  The disk: directories that are made, changes of names.
-/
namespace Go.Proofs.YtdliddjkacbggaaGreatDoor.SimG
open Go.Proofs.YtdliddjkacbggaaGreatDoor.E Go.RowKit Go.Proofs.YtdliddjkacbggaaGreatDoor.SimA Go.Proofs.YtdliddjkacbggaaGreatDoor.SimB Go.Proofs.YtdliddjkacbggaaGreatDoor.SimC Go.Proofs.YtdliddjkacbggaaGreatDoor.SimD Go.Proofs.YtdliddjkacbggaaGreatDoor.SimE Go.Proofs.YtdliddjkacbggaaGreatDoor.SimF
set_option maxRecDepth 20000
set_option linter.unusedVariables false
set_option linter.unusedSimpArgs false
set_option linter.unusedSectionVars false
set_option maxRecDepth 100000 in
theorem inf97 : Inf Tryz.prog 97 103 3 40 := ⟨Tryz.underlying97, _, _, rfl, rfl, rfl, rfl, rfl⟩
theorem mkdir_ct (K : List Nat) (g : Gh) (b : Nat) (D : Dk) (p : Pth) (w0 : World) (H0 : Heap)
    (hf : PDk K g H0 b D) (hdl : g.dm.length + 1 ≤ D.ops) :
    Ct Tryz.prog w0 86 #[ptr b, Str p] H0 (fun r H2 => ∃ K2 : List Nat, ∃ g2 : Gh, ∃ db : Nat, r = ptr db ∧ (PDk K2 g2 H2 b D) ∧ (NxK K H0.size K2) ∧ (mget g2.dm p = some db) ∧ (g2.fb = g.fb) ∧ Mo (Ms K) H0 H2) := by
  refine Ct.enter (args := [ptr b, Str p]) Tryz.func86 rfl rfl rfl ?_
  intro Q0 hret
  have hm0 : Mo (Ms K) H0 H0 := Mo.refl _ _
  have nx_hm0_hf := NxK.refl K H0.size
  have hbk_hf := hf.bk
  refine CW.seq (fun K1 hK1 hE1 => ?_)
  refine CW.region ?_
  refine LR.v (Y.assign rfl rfl) (Wd.u rfl) rfl rfl ?_
  refine LR.nil ?_
  refine hK1 _ _ ?_
  refine CW.seq (fun K2 hK2 hE2 => ?_)
  refine CW.region ?_
  refine LR.v (Y.move rfl rfl) (Wd.u rfl) rfl rfl ?_
  refine LR.v (Y.nilCheck rfl rfl) (Wd.u rfl) rfl rfl ?_
  refine LR.v (Y.fieldAddr hf.vb.pt rfl Tryz.runUnderlying73 rfl rfl Tryz.sizeOf66 (by decide) rfl) (Wd.u rfl) rfl rfl ?_
  refine LR.v (Y.load1 (hf.vb.pt.drop 2) rfl Tryz.isAgg66 rfl) (Wd.u rfl) rfl rfl ?_
  refine LR.v (Y.move rfl rfl) (Wd.u rfl) rfl rfl ?_
  refine LR.v (look_p adO hf.hm.mo (fun _ => rfl) keyStr rfl Tryz.runUnderlying66 Tryz.underlying9 Tryz.zeroValue92 rfl rfl) (Wd.u rfl) rfl rfl ?_
  refine LR.v (Y.assign rfl rfl) (Wd.u rfl) rfl rfl ?_
  refine LR.nil ?_
  refine hK2 _ _ ?_
  refine CW.seq (fun K3 hK3 hE3 => ?_)
  refine CW.seq (fun K4 hK4 hE4 => ?_)
  refine CW.region ?_
  refine LR.v (Y.move rfl rfl) (Wd.u rfl) rfl rfl ?_
  refine LR.v (Y.peq rfl (by kernel_rfl) (by kernel_rfl) rfl rfl) (Wd.u rfl) rfl rfl ?_
  refine LR.nil ?_
  refine hK4 _ _ ?_
  refine CW.cond rfl (fun c13 => ?_) (fun c13 => ?_)
  ·
    have hnd : mget g.dm p = none := by
      cases hq : mget g.dm p with
      | none => rfl
      | some db => rw [hq] at c13; cases c13
    refine CW.seq (fun K5 hK5 hE5 => ?_)
    refine CW.region ?_
    refine LR.z (Z.makeMp Str (fvl g.fb) rfl) (Wd.u rfl) rfl rfl (fun v14 H14 r14 => ?_)
    obtain ⟨rfl, hn, hs14, ob14, hH14⟩ := r14
    have hzs14 : H14.size = H0.size + 1 := by rw [hH14]; simp
    have dj1 : DL (H0.size + 1) K := DL.newK hf.bk
    have nx2 : Nx 0 H0.size (H0.size + 1) := Nx.new hm0.size
    replace hf := hf.nw hs14
    replace hm0 := hm0.trN hs14
    have hz1 := hs14.size
    have hlt_hn := hn.lt
    refine LR.z (Z.makeMp Str (fvl g.fb) rfl) (Wd.u rfl) rfl rfl (fun v15 H15 r15 => ?_)
    obtain ⟨rfl, hs, hs15, ob15, hH15⟩ := r15
    have hzs15 : H15.size = H14.size + 1 := by rw [hH15]; simp
    have dj3 : DL (H14.size + 1) K := DL.newK hf.bk
    have dj4 : Dj (H0.size + 1) (H14.size + 1) := Dj.new hn.lt
    have nx5 : Nx 0 H0.size (H14.size + 1) := Nx.new hm0.size
    replace hf := hf.nw hs15
    replace hn := hn.nw hs15
    replace hm0 := hm0.trN hs15
    have hz2 := hs15.size
    have hlt_hs := hs.lt
    refine LR.v (Y.build (v := .agg #[.map (some H0.size), .map (some H14.size)]) rfl rfl (by intro w; kernel_rfl)) (Wd.u rfl) rfl rfl ?_
    refine LR.v (Y.build (v := .agg #[.map (some H0.size), .map (some H14.size), .slice none 0 0]) rfl rfl (by intro w; kernel_rfl)) (Wd.u rfl) rfl rfl ?_
    refine LR.z (Z.boxv rfl rfl) (Wd.u rfl) rfl rfl (fun v18 H18 r18 => ?_)
    obtain ⟨rfl, hvd, hs18, ob18, hH18⟩ := r18
    have hzs18 : H18.size = H15.size + 1 := by rw [hH18]; simp
    have dj6 : DL (H15.size + 1) K := DL.newK hf.bk
    have dj7 : Dj (H0.size + 1) (H15.size + 1) := Dj.new hn.lt
    have dj8 : Dj (H14.size + 1) (H15.size + 1) := Dj.new hs.lt
    have nx9 : Nx 0 H0.size (H15.size + 1) := Nx.new hm0.size
    replace hf := hf.nw hs18
    replace hn := hn.nw hs18
    replace hs := hs.nw hs18
    replace hm0 := hm0.trN hs18
    have hz3 := hs18.size
    replace hvd : Var 99 H18 H15.size ([.map (some H0.size), .map (some H14.size), .slice none 0 0]) := hvd
    refine LR.v (Y.assign rfl rfl) (Wd.u rfl) rfl rfl ?_
    refine LR.nil ?_
    refine hK5 _ _ ?_
    refine CW.region ?_
    refine LR.v (Y.move rfl rfl) (Wd.u rfl) rfl rfl ?_
    refine LR.v (Y.nilCheck rfl rfl) (Wd.u rfl) rfl rfl ?_
    refine LR.v (Y.fieldAddr hf.vb.pt rfl Tryz.runUnderlying73 rfl rfl Tryz.sizeOf66 (by decide) rfl) (Wd.u rfl) rfl rfl ?_
    refine LR.v (Y.load1 (hf.vb.pt.drop 2) rfl Tryz.isAgg66 rfl) (Wd.u rfl) rfl rfl ?_
    refine LR.v (Y.move rfl rfl) (Wd.u rfl) rfl rfl ?_
    refine LR.v (Y.move rfl rfl) (Wd.u rfl) rfl rfl ?_
    refine LR.s (S.putMp H15.size hf.hm keyStr rfl Tryz.runUnderlying66 Tryz.underlying9 rfl rfl rfl) (Wd.u rfl) rfl (fun H4_6 r4_6 => ?_)
    obtain ⟨hmp, hw4_6⟩ := r4_6
    have hs4_6 := hf.ms hw4_6 (fun c e => by rw [e, hf.rm]; simp)
    replace hm0 := hm0.trL hs4_6 (MIL.ofK (nx_hm0_hf) (by intro k hk; simp [hk]))
    have hz4 := hs4_6.size
    have dj10 : DL (H14.size + 1) ((H0.size + 1) :: K) := DL.cons (dj4.symm) (dj3)
    have dj11 : DL (H15.size + 1) ((H0.size + 1) :: K) := DL.cons (dj7.symm) (dj6)
    have nx12 := NxK.cons (nx2) (nx_hm0_hf)
    have dj13 : DL (H15.size + 1) ((H14.size + 1) :: ((H0.size + 1) :: K)) := DL.cons (dj8.symm) (dj11)
    have nx14 := NxK.cons (nx5) (nx12)
    have nx15 := NxK.cons (nx9) (nx14)
    replace hf := hf.newDir hnd hvd hn hs (dj6) (dj1) (dj3) (by omega) (by omega) (by omega) hw4_6.md1 hmp hdl
    have hbk_hf := hf.bk
    refine LR.nil ?_
    refine hK3 _ _ ?_
    refine CW.seq (fun K6 hK6 hE6 => ?_)
    refine CW.region ?_
    refine LR.v (Y.move rfl rfl) (Wd.u rfl) rfl rfl ?_
    refine LR.v (Y.assign rfl rfl) (Wd.u rfl) rfl rfl ?_
    refine LR.nil ?_
    refine hK6 _ _ ?_
    refine CW.ret (hret .ret (.inr rfl) _ _ _ (res1 rfl rfl) ?_)
    exact ⟨_, _, _, rfl, hf, nx15, by show mget (mput g.dm p _) p = _; rw [mget_put, if_pos rfl], rfl, hm0⟩
  ·
    obtain ⟨db, hdb⟩ : ∃ db, mget g.dm p = some db := by
      cases hq : mget g.dm p with
      | none => rw [hq] at c13; cases c13
      | some db => exact ⟨db, rfl⟩
    refine CW.skip ?_
    refine hK3 _ _ ?_
    refine CW.seq (fun K7 hK7 hE7 => ?_)
    refine CW.region ?_
    refine LR.v (Y.move rfl rfl) (Wd.u rfl) rfl rfl ?_
    refine LR.v (Y.assign rfl rfl) (Wd.u rfl) rfl rfl ?_
    refine LR.nil ?_
    refine hK7 _ _ ?_
    refine CW.ret (hret .ret (.inr rfl) _ _ _ (res1 rfl rfl) ?_)
    exact ⟨K, g, db, by rw [hdb]; rfl, hf, nx_hm0_hf, hdb, rfl, hm0⟩

set_option maxHeartbeats 2000000 in
theorem change_ct (K : List Nat) (g : Gh) (b : Nat) (D : Dk) (p : Pth) (c : Chg) (w0 : World) (H0 : Heap)
    (hf : PDk K g H0 b D) (hdl : g.dm.length + 1 ≤ D.ops) (hcd : c.dir = p) (hcn : ∀ i, c.f = some i → dirP c.n = p ∧ i < D.fs.length) (hcg : c.g ≠ [] → dirP c.g = p) (hll : D.log.length ≤ 1099511627776) :
    Ct Tryz.prog w0 85 #[ptr b, Str p, .agg (fC g.fb c).toArray] H0 (fun r H2 => ∃ K2 : List Nat, ∃ g2 : Gh, r = .tuple #[] ∧ (PDk K2 g2 H2 b (D.change c)) ∧ (NxK K H0.size K2) ∧ (g2.fb = g.fb) ∧ Mo (Ms K) H0 H2) := by
  refine Ct.enter (args := [ptr b, Str p, .agg (fC g.fb c).toArray]) Tryz.func85 rfl rfl rfl ?_
  intro Q0 hret
  have hm0 : Mo (Ms K) H0 H0 := Mo.refl _ _
  have nx_hm0_hf := NxK.refl K H0.size
  have hbk_hf := hf.bk
  refine CW.seq (fun K1 hK1 hE1 => ?_)
  refine CW.region ?_
  refine LR.z (Z.boxv rfl rfl) (Wd.u rfl) rfl rfl (fun v5 H5 r5 => ?_)
  obtain ⟨rfl, vc, hs5, ob5, hH5⟩ := r5
  have hzs5 : H5.size = H0.size + 1 := by rw [hH5]; simp
  have dj1 : DL (H0.size + 1) K := DL.newK hf.bk
  have nx2 : Nx 0 H0.size (H0.size + 1) := Nx.new hm0.size
  replace hf := hf.nw hs5
  replace hm0 := hm0.trN hs5
  have hz1 := hs5.size
  replace vc : Var 103 H5 H0.size (fC g.fb c) := vc
  refine LR.nil ?_
  refine hK1 _ _ ?_
  refine CW.seq (fun K2 hK2 hE2 => ?_)
  refine CW.region ?_
  refine LR.v (Y.move rfl rfl) (Wd.u rfl) rfl rfl ?_
  refine LR.v (Y.move rfl rfl) (Wd.u rfl) rfl rfl ?_
  -- call (*selvage/simfs.FS).dir
  refine LR.call rfl Tryz.call86 rfl (Wd.u rfl) rfl rfl (mkdir_ct K g b D p w0 _ hf hdl) (fun v9 H9 r9 => ?_)
  have ql3 := hf.bk
  have ql4 := vc.lt
  obtain ⟨K9, g9, db, rfl, hf, hkd9, hdb, hg9, hs9⟩ := r9
  have dj5 : DL (H0.size + 1) K9 := DL.appK (dj1) ql4 hkd9
  have nx6 : NxK K H0.size K9 := NxK.tr (nx_hm0_hf) hkd9 hm0.size
  replace vc := vc.upL hs9 (dj1)
  replace hm0 := hm0.trL hs9 (MIL.ofK (nx_hm0_hf) (by intro k hk; simp [hk]))
  have hz2 := hs9.size
  have hbk_hf := hf.bk
  rw [← hg9] at vc
  refine LR.v (Y.assign rfl rfl) (Wd.u rfl) rfl rfl ?_
  refine LR.nil ?_
  refine hK2 _ _ ?_
  refine CW.seq (fun K3 hK3 hE3 => ?_)
  obtain ⟨nbA, sbA, kcA, svA, nmA, smA, hdA⟩ := hf.dirs _ db hdb
  refine CW.region_tail 6 rfl (by kernel_rfl) (fun T2 hT2 => ?_)
  refine LR.v (Y.move rfl rfl) (Wd.u rfl) rfl rfl ?_
  refine LR.v (Y.nilCheck rfl rfl) (Wd.u rfl) rfl rfl ?_
  refine LR.v (Y.fieldAddr hdA.vd.pt rfl Tryz.runUnderlying99 rfl rfl Tryz.sizeOf96 (by decide) rfl) (Wd.u rfl) rfl rfl ?_
  refine LR.v (Y.fieldAddr (hdA.vd.pt.drop 0) rfl Tryz.runUnderlying96 rfl rfl Tryz.sizeOf94 (by decide) rfl) (Wd.u rfl) rfl rfl ?_
  refine LR.v (Y.load1 ((hdA.vd.pt.drop 0).drop 0) rfl Tryz.isAgg94 rfl) (Wd.u rfl) rfl rfl ?_
  refine LR.v (Y.loadN vc.pt rfl Tryz.isAgg103 Tryz.sizeOf103 (rfl) rfl) (Wd.u rfl) rfl rfl ?_
  refine LR.nil (hT2 _ ?_)
  refine LR.call rfl Tryz.call39 rfl (Wd.u rfl) rfl rfl ((put_ct g9.fb nbA nmA c w0 _ hdA.hn).mono (fun r H2 h => hf.put hdb hdA h.2 h.1 (mget_apM c nmA) (fun i hi => ⟨(hcn i hi).1, (hcn i hi).2⟩) hcg)) (fun v16 H16 r16 => ?_)
  obtain ⟨hf, hs16⟩ := r16
  replace vc := vc.upL hs16 (dj5)
  replace hm0 := hm0.trL hs16 (MIL.ofK (nx6) (by intro k hk; simp [hk]))
  have hz3 := hs16.size
  have hbk_hf := hf.bk
  refine LR.nil ?_
  refine hK3 _ _ ?_
  obtain ⟨nbB, sbB, kcB, svB, nmB, smB, hdB⟩ := hf.dirs _ db hdb
  have hll2 : (D.chgs p).length ≤ D.log.length := List.length_filter_le _ _
  have hop : Mo (Ms [(db + 1), kcB]) H16 H16 := Mo.refl _ _
  have km7 : KM K9 (db + 1) := (hf.km1 hdB.rd (by simp))
  have vd := hdB.vd
  have hlt_vd := vd.lt
  have dj8 : Dj (H0.size + 1) (db + 1) := DL.at (dj5) km7
  have nx9 : MI K H0.size (db + 1) := MIL.at (MIL.ofK (nx6) (by intro k hk; simp [hk])) km7
  have nx10 := Nx.refl (db + 1) H16.size
  have km11 : KM K9 kcB := (hf.km hdB.rc (by simp))
  have hc := (show Ow kcB 103 _ (fC g9.fb) 3 svB.v (D.chgs p) from hdB.hc)
  have hle_hc := hc.le
  have dj12 : Dj (H0.size + 1) kcB := DL.at (dj5) km11
  have nx13 : MI K H0.size kcB := MIL.at (MIL.ofK (nx6) (by intro k hk; simp [hk])) km11
  have nx14 := Nx.refl kcB H16.size
  have dj15 : Dj (db + 1) kcB := fun x h1 h2 => by have h3 := hdB.rc x h2; rw [show x = db by omega, hdB.rd] at h3; cases h3
  refine CW.region_any (fun Hq => Mo (Ms [kcB]) H16 Hq) [8, 9, 10] rfl ?_
  have hq3 : Mo (Ms [kcB]) H16 H16 := Mo.refl _ _
  have nx16 := Nx.refl kcB H16.size
  refine LH.take 0 (by kernel_rfl) rfl (by kernel_rfl) (by kernel_rfl) (by kernel_rfl) (fun Hq hq => Y.move rfl rfl) (Wd.u rfl) rfl rfl hq3 ?_
  refine LH.take 1 (by kernel_rfl) rfl (by kernel_rfl) (by kernel_rfl) (by kernel_rfl) (fun Hq hq => Y.move rfl rfl) (Wd.u rfl) rfl rfl hq3 ?_
  refine LH.take 2 (by kernel_rfl) rfl (by kernel_rfl) (by kernel_rfl) (by kernel_rfl) (fun Hq hq => Y.nilCheck rfl rfl) (Wd.u rfl) rfl rfl hq3 ?_
  refine LH.take 3 (by kernel_rfl) rfl (by kernel_rfl) (by kernel_rfl) (by kernel_rfl) (fun Hq hq => Y.fieldAddr (vd.upL hq (DL.cons dj15 DL.nil)).pt rfl Tryz.runUnderlying99 rfl rfl Tryz.sizeOf97 (by decide) rfl) (Wd.u rfl) rfl rfl hq3 ?_
  refine LH.take 4 (by kernel_rfl) rfl (by kernel_rfl) (by kernel_rfl) (by kernel_rfl) (fun Hq hq => Y.load1 ((vd.upL hq (DL.cons dj15 DL.nil)).pt.drop 2) rfl Tryz.isAgg97 rfl) (Wd.u rfl) rfl rfl hq3 ?_
  refine LH.take 5 (by kernel_rfl) rfl (by kernel_rfl) (by kernel_rfl) (by kernel_rfl) (fun Hq hq => Y.loadN (vc.upL hq (DL.cons dj12 DL.nil)).pt rfl Tryz.isAgg103 Tryz.sizeOf103 (rfl) rfl) (Wd.u rfl) rfl rfl hq3 ?_
  refine LH.one (i := 6) (by kernel_rfl) ?_
  refine LO.z rfl (Z.litw _ ([c]) rfl inf97 rfl rfl rfl (by decide) (by decide) (fC_len _) (fC_one _) (rfl)) (Wd.u rfl) rfl rfl (fun v23 H23 r23 => ?_)
  obtain ⟨ow23, hs23, ob23, hH23⟩ := r23
  have hzs23 : H23.size = H16.size + 1 := by rw [hH23]; simp
  have dj17 : Dj (H0.size + 1) (H16.size + 1) := Dj.new vc.lt
  have dj18 : Dj (db + 1) (H16.size + 1) := Dj.new vd.lt
  have dj19 : Dj kcB (H16.size + 1) := Dj.new hc.le
  have nx20 : Nx 0 H0.size (H16.size + 1) := Nx.new hm0.size
  have nx21 : Nx 0 H16.size (H16.size + 1) := Nx.new hop.size
  have nx22 : Nx 0 H16.size (H16.size + 1) := Nx.new hq3.size
  replace vc := vc.nw hs23
  replace vd := vd.nw hs23
  replace hc := hc.nw hs23
  replace hm0 := hm0.trN hs23
  replace hop := hop.trN hs23
  replace hq3 := hq3.trN hs23
  have hz4 := hs23.size
  refine ⟨.inr hq3, LH.narrow (SH2 := fun Hq => Mo (Ms [kcB, (H16.size + 1)]) H23 Hq) (fun Hq hq => hq3.trL hq (MIL.cons (MI.app (MI.root (by simp)) (nx16) (Nat.le_refl _)) (MIL.cons (MI.app MI.z (nx22) (Nat.le_refl _)) MIL.nil))) ?_⟩
  have hq3 : Mo (Ms [kcB, (H16.size + 1)]) H23 H23 := Mo.refl _ _
  have nx23 := Nx.refl kcB H23.size
  have nx24 := Nx.refl (H16.size + 1) H23.size
  refine LH.one (i := 7) (by kernel_rfl) ?_
  refine LO.z rfl (Z.apnd hc ow23.rd rfl inf97 rfl rfl (by first | omega | (simp; omega)) (by first | omega | (simp; omega))) (Wd.u rfl) rfl rfl (fun v24 H24 r24 => ?_)
  obtain ⟨kc2, hc, hk24, hs24⟩ := r24
  replace hk24 : Nx kcB H23.size kc2 := hk24
  replace hs24 := hs24.md
  have dj25 : Dj (H0.size + 1) kc2 := Dj.app (dj12) vc.lt hk24
  have dj26 : Dj (db + 1) kc2 := Dj.app (dj15) vd.lt hk24
  have dj27 : Dj (H16.size + 1) kc2 := Dj.app (dj19.symm) ow23.le hk24
  have nx28 : MI K H0.size kc2 := MI.app (nx13) hk24 hm0.size
  have nx29 : Nx kcB H16.size kc2 := Nx.tr (nx14) hk24 hop.size
  have nx30 : Nx kcB H23.size kc2 := Nx.tr (nx23) hk24 hq3.size
  replace vc := vc.upL hs24 (DL.cons dj12 DL.nil)
  replace vd := vd.upL hs24 (DL.cons dj15 DL.nil)
  replace ow23 := ow23.upL hs24 (DL.cons dj19.symm DL.nil)
  replace hm0 := hm0.trL hs24 (MIL.cons (nx13) MIL.nil)
  replace hop := hop.trL hs24 (MIL.cons (MI.app (MI.root (by simp)) (nx14) (Nat.le_refl _)) MIL.nil)
  replace hq3 := hq3.trL hs24 (MIL.cons (MI.app (MI.root (by simp)) (nx23) (Nat.le_refl _)) MIL.nil)
  have hz5 := hs24.size
  have hle_hc := hc.le
  refine ⟨.inr hq3, LH.narrow (SH2 := fun Hq => Mo (Ms [kc2, (H16.size + 1)]) H24 Hq) (fun Hq hq => hq3.trL hq (MIL.cons (MI.app (MI.root (by simp)) (nx30) (Nat.le_refl _)) (MIL.cons (MI.app (MI.root (by simp)) (nx24) (Nat.le_refl _)) MIL.nil))) ?_⟩
  have hq3 : Mo (Ms [kc2, (H16.size + 1)]) H24 H24 := Mo.refl _ _
  have nx31 := Nx.refl kc2 H24.size
  have nx32 := Nx.refl (H16.size + 1) H24.size
  refine LH.one (i := 8) (by kernel_rfl) ?_
  refine LO.v rfl (Y.nilCheck rfl rfl) (Wd.u rfl) rfl rfl (.inl rfl) ?_
  refine LH.one (i := 9) (by kernel_rfl) ?_
  refine LO.v rfl (Y.fieldAddr vd.pt rfl Tryz.runUnderlying99 rfl rfl Tryz.sizeOf97 (by decide) rfl) (Wd.u rfl) rfl rfl (.inl rfl) ?_
  refine LH.one (i := 10) (by kernel_rfl) ?_
  refine LO.s rfl (S.var1 vd 2 ([.map (some nbB), .map (some sbB), v24]) rfl rfl rfl (hc.rd.oneCell) Tryz.sizeOf97 (by simp) (rfl)) (Wd.u rfl) rfl (fun H3_10 r3_10 => ?_)
  obtain ⟨vd, hs3_10⟩ := r3_10
  replace hs3_10 := hs3_10.md1
  replace vc := vc.upL hs3_10 (DL.cons dj8 DL.nil)
  replace hc := hc.upL hs3_10 (DL.cons dj26.symm DL.nil)
  replace ow23 := ow23.upL hs3_10 (DL.cons dj18.symm DL.nil)
  replace hm0 := hm0.trL hs3_10 (MIL.cons (nx9) MIL.nil)
  replace hop := hop.trL hs3_10 (MIL.cons (MI.app (MI.root (by simp)) (nx10) (Nat.le_refl _)) MIL.nil)
  -- LOST hq3
  have hz6 := hs3_10.size
  refine ⟨.inl rfl, ?_⟩
  refine LH.done (by kernel_rfl) ?_
  obtain ⟨sv2, rfl⟩ : ∃ s : SV, v24 = s.v := ⟨toSV v24, hc.sv.symm⟩
  have dj33 : DL (H0.size + 1) (kc2 :: K9) := (DL.cons (dj25) (dj5))
  have nx34 : NxK K H0.size (kc2 :: K9) := (NxK.app (nx6) (km11) (nx29) (by omega))
  replace hf := hf.note hdb hdB hop vd hc (nx29) hcd (fun i hi => (hcn i hi).2)
  have hbk_hf := hf.bk
  refine hret .normal (.inl rfl) _ _ _ (res0 rfl) ?_
  exact ⟨_, _, rfl, hf, nx34, hg9, hm0⟩

end Go.Proofs.YtdliddjkacbggaaGreatDoor.SimG
/-
  The disk: bytes that are laid down.
-/
namespace Go.Proofs.YtdliddjkacbggaaGreatDoor.SimH
open Go.Proofs.YtdliddjkacbggaaGreatDoor.E Go.RowKit Go.Proofs.YtdliddjkacbggaaGreatDoor.SimA Go.Proofs.YtdliddjkacbggaaGreatDoor.SimB Go.Proofs.YtdliddjkacbggaaGreatDoor.SimC Go.Proofs.YtdliddjkacbggaaGreatDoor.SimD Go.Proofs.YtdliddjkacbggaaGreatDoor.SimE Go.Proofs.YtdliddjkacbggaaGreatDoor.SimF Go.Proofs.YtdliddjkacbggaaGreatDoor.SimG
set_option maxRecDepth 20000
set_option linter.unusedVariables false
set_option linter.unusedSimpArgs false
set_option linter.unusedSectionVars false
set_option maxRecDepth 100000 in
theorem inf110 : Inf Tryz.prog 110 149 2 32 := ⟨Tryz.underlying110, _, _, rfl, rfl, rfl, rfl, rfl⟩

/-- a disk that is not too large -/
structure Bd (n : Nat) (D : Dk) : Prop where
  an : Asc D.now
  ast : Asc D.stays
  us : D.used ≤ 2305843009213693952
  lg : D.log.length ≤ n
  op : D.ops ≤ n
  nw : ∀ i, (fget D.fs i).now.length ≤ n
  sy : ∀ i, (fget D.fs i).stays.length ≤ n
  w : ∀ i, (fget D.fs i).w.length ≤ n
  wd : ∀ i, ∀ y ∈ (fget D.fs i).w, y.d.length ≤ n
  nl : D.now.length ≤ n
  sl : D.stays.length ≤ n
  fl : D.fs.length ≤ n
  pf : ∀ i j, (onAll ((fget D.fs i).w.take j) (fget D.fs i).stays).length ≤ n
  ld : ∀ c ∈ D.log, ∀ i, c.f = some i → dirP c.n = c.dir
theorem begin_same (D : Dk) : D.begin.2.cap = D.cap ∧ D.begin.2.most = D.most ∧ D.begin.2.fs = D.fs ∧ D.begin.2.now = D.now ∧ D.begin.2.stays = D.stays ∧ D.begin.2.log = D.log ∧ D.begin.2.ops ≤ D.ops + 1 := by
  unfold Dk.begin
  split
  · exact ⟨rfl, rfl, rfl, rfl, rfl, rfl, Nat.le_succ _⟩
  · split
    · exact ⟨rfl, rfl, rfl, rfl, rfl, rfl, Nat.le_succ _⟩
    · exact ⟨rfl, rfl, rfl, rfl, rfl, rfl, Nat.le_refl _⟩
theorem begin_true {D : Dk} (h : D.begin.1 = true) : D.begin.2.ops = D.ops + 1 ∧ D.begin.2.dead = false := by
  unfold Dk.begin at h ⊢
  split at h
  · cases h
  · rename_i h1
    split at h
    · cases h
    · rename_i h2
      rw [if_neg h1, if_neg h2]
      exact ⟨rfl, by simpa using h1⟩
theorem Bd.mono {n m : Nat} {D : Dk} (h : Bd n D) (hm : n ≤ m) : Bd m D := ⟨h.an, h.ast, h.us, Nat.le_trans h.lg hm, Nat.le_trans h.op hm, fun i => Nat.le_trans (h.nw i) hm, fun i => Nat.le_trans (h.sy i) hm, fun i => Nat.le_trans (h.w i) hm, fun i y hy => Nat.le_trans (h.wd i y hy) hm, Nat.le_trans h.nl hm, Nat.le_trans h.sl hm, Nat.le_trans h.fl hm, fun i j => Nat.le_trans (h.pf i j) hm, h.ld⟩
theorem Bd.begin {n : Nat} {D : Dk} (h : Bd n D) : Bd (n + 1) D.begin.2 := by
  obtain ⟨e1, e2, e3, e4, e5, e6, e7⟩ := begin_same D
  have h := h.mono (Nat.le_succ n)
  exact ⟨by rw [e4]; exact h.an, by rw [e5]; exact h.ast, by unfold Dk.used; rw [e3, e4]; exact h.us, by rw [e6]; exact h.lg, by have := Bd.op ‹Bd n D›; omega, by rw [e3]; exact h.nw, by rw [e3]; exact h.sy, by rw [e3]; exact h.w, by rw [e3]; exact h.wd, by rw [e4]; exact h.nl, by rw [e5]; exact h.sl, by rw [e3]; exact h.fl, by rw [e3]; exact h.pf, by rw [e6]; exact h.ld⟩
theorem look_0 {D : Dk} {p : Pth} (h : D.look p = 0) : nameB p = true ∧ ∃ i, mget D.now p = some i := by
  unfold Dk.look at h
  cases hn : nameB p with
  | false => rw [hn] at h; simp at h
  | true =>
    rw [hn] at h
    cases hq : mget D.now p with
    | none => rw [hq] at h; simp at h
    | some i => exact ⟨rfl, i, rfl⟩
theorem look_2 {D : Dk} {p : Pth} (h : D.look p = 2) : nameB p = true ∧ mget D.now p = none := by
  unfold Dk.look at h
  cases hn : nameB p with
  | false => rw [hn] at h; simp at h
  | true =>
    rw [hn] at h
    cases hq : mget D.now p with
    | none => exact ⟨rfl, rfl⟩
    | some i => rw [hq] at h; simp at h
theorem look_7 {D : Dk} {p : Pth} (h : D.look p = 7) : nameB p = false := by
  unfold Dk.look at h
  cases hn : nameB p with
  | false => rfl
  | true =>
    rw [hn] at h
    cases hq : mget D.now p with
    | none => rw [hq] at h; simp at h
    | some i => rw [hq] at h; simp at h
theorem look_or (D : Dk) (p : Pth) : D.look p = 0 ∨ D.look p = 2 ∨ D.look p = 7 := by
  unfold Dk.look
  split
  · split
    · exact .inl rfl
    · exact .inr (.inl rfl)
  · exact .inr (.inr rfl)
theorem on_len (w : Wr) (b : List UInt8) : (w.on b w.d.length).length = (if w.b = true then b.length else 0) + w.d.length := by
  unfold Wr.on; rw [List.length_append, List.length_take, Nat.min_self]; split <;> rfl
theorem fget_put {D : Dk} {i : Nat} {x : Fdt} (h : i < D.fs.length) : fget (D.putF i x).fs i = x := by simp [fget, Dk.putF, List.getD, h]
theorem fl_put {D : Dk} {i : Nat} {x : Fdt} : (D.putF i x).fs.length = D.fs.length := by simp [Dk.putF]
theorem put_put {D : Dk} {i : Nat} {x y : Fdt} : (D.putF i x).putF i y = D.putF i y := by simp [Dk.putF]
/-- what 'lay' answers, and does -/
theorem lay_dead {D : Dk} {p : Pth} {w : Wr} (h : D.begin.1 = false) : D.lay p w = (11, D.begin.2) := by unfold Dk.lay; simp [h]
theorem lay_go {D : Dk} {p : Pth} {w : Wr} (h : D.begin.1 = true) : D.lay p w = (D.begin.2.layE p w, if D.begin.2.layE p w = 0 then D.begin.2.write p w else D.begin.2) := by unfold Dk.lay; simp [h]
theorem layE_7 {D : Dk} {p : Pth} {w : Wr} (h : nameB p = false) : D.layE p w = 7 := by unfold Dk.layE; rw [if_pos h]
theorem layE_5 {D : Dk} {p : Pth} {w : Wr} (h : nameB p = true) (h2 : D.most < (w.on (D.wasL p) w.d.length).length) : D.layE p w = 5 := by unfold Dk.layE; rw [if_neg (by simp [h]), if_pos h2]
theorem layE_12 {D : Dk} {p : Pth} {w : Wr} (h : nameB p = true) (h2 : ¬ D.most < (w.on (D.wasL p) w.d.length).length) (h3 : D.cap + (D.wasL p).length < D.used + (w.on (D.wasL p) w.d.length).length) : D.layE p w = 12 := by unfold Dk.layE; rw [if_neg (by simp [h]), if_neg h2, if_pos h3]
theorem layE_0 {D : Dk} {p : Pth} {w : Wr} (h : nameB p = true) (h2 : ¬ D.most < (w.on (D.wasL p) w.d.length).length) (h3 : ¬ D.cap + (D.wasL p).length < D.used + (w.on (D.wasL p) w.d.length).length) : D.layE p w = 0 := by unfold Dk.layE; rw [if_neg (by simp [h]), if_neg h2, if_neg h3]
theorem was_some {D : Dk} {p : Pth} {i : Nat} (h : mget D.now p = some i) : D.wasL p = (fget D.fs i).now := by unfold Dk.wasL; rw [h]
theorem was_none {D : Dk} {p : Pth} (h : mget D.now p = none) : D.wasL p = [] := by unfold Dk.wasL; rw [h]
theorem write_some {D : Dk} {p : Pth} {i : Nat} {w : Wr} (h : mget D.now p = some i) (hi : i < D.fs.length) :
    (D.putF i ⟨w.on (D.wasL p) w.d.length, (fget D.fs i).stays, (fget D.fs i).w⟩).putF i ⟨(fget (D.putF i ⟨w.on (D.wasL p) w.d.length, (fget D.fs i).stays, (fget D.fs i).w⟩).fs i).now, (fget (D.putF i ⟨w.on (D.wasL p) w.d.length, (fget D.fs i).stays, (fget D.fs i).w⟩).fs i).stays, (fget (D.putF i ⟨w.on (D.wasL p) w.d.length, (fget D.fs i).stays, (fget D.fs i).w⟩).fs i).w ++ [w]⟩ = D.write p w := by
  rw [fget_put hi, put_put, was_some h]
  unfold Dk.write Dk.make; rw [h]
/-- a disk with a file more -/
def mk1 (D : Dk) (p : Pth) : Dk := ({ D with fs := D.fs ++ [⟨[], [], []⟩] } : Dk).change ⟨[], p, some D.fs.length⟩
theorem mk1_get (D : Dk) (p : Pth) : fget (mk1 D p).fs D.fs.length = ⟨[], [], []⟩ := by simp [mk1, Dk.change, fget, List.getD]
theorem mk1_len (D : Dk) (p : Pth) : D.fs.length < (mk1 D p).fs.length := by simp [mk1, Dk.change]
theorem write_none {D : Dk} {p : Pth} {w : Wr} (h : mget D.now p = none) :
    ((mk1 D p).putF D.fs.length ⟨w.on (fget (mk1 D p).fs D.fs.length).now w.d.length, (fget (mk1 D p).fs D.fs.length).stays, (fget (mk1 D p).fs D.fs.length).w⟩).putF D.fs.length ⟨(fget ((mk1 D p).putF D.fs.length ⟨w.on (fget (mk1 D p).fs D.fs.length).now w.d.length, (fget (mk1 D p).fs D.fs.length).stays, (fget (mk1 D p).fs D.fs.length).w⟩).fs D.fs.length).now, (fget ((mk1 D p).putF D.fs.length ⟨w.on (fget (mk1 D p).fs D.fs.length).now w.d.length, (fget (mk1 D p).fs D.fs.length).stays, (fget (mk1 D p).fs D.fs.length).w⟩).fs D.fs.length).stays, (fget ((mk1 D p).putF D.fs.length ⟨w.on (fget (mk1 D p).fs D.fs.length).now w.d.length, (fget (mk1 D p).fs D.fs.length).stays, (fget (mk1 D p).fs D.fs.length).w⟩).fs D.fs.length).w ++ [w]⟩ = D.write p w := by
  rw [fget_put (mk1_len D p), put_put]
  unfold Dk.write Dk.make; rw [h]
  rfl

set_option maxHeartbeats 1000000 in
theorem lay_ct (mx_ : Int) (K : List Nat) (g : Gh) (b : Nat) (D : Dk) (p : Pth) (x : Wx) (F : Nat → Prop) (w0 : World) (H0 : Heap)
    (hf : PDk K g H0 b D) (mx : MX mx_ H0) (bf_mx : BF (fun b => b = 0) H0.size) (dmx : DFL (fun b => b = 0) K) (hd : Rd F H0 fB 1 x.2.v x.1.d) (bf_hd : BF F H0.size) (dfd : DFL F K) (hl : p.length ≤ 4294967280) (hB : Bd 274877906944 D) (hdl : x.1.d.length ≤ 274877906944) :
    Ct Tryz.prog w0 74 #[ptr b, Str p, wV x] H0 (fun r H2 => ∃ K2 : List Nat, ∃ g2 : Gh, r = .int .i64 ((D.lay p x.1).1 : Int) ∧ (PDk K2 g2 H2 b (D.lay p x.1).2) ∧ (NxK K H0.size K2) ∧ Mo (Ms K) H0 H2) := by
  refine Ct.enter (args := [ptr b, Str p, wV x]) Tryz.func74 rfl rfl rfl ?_
  intro Q0 hret
  have hm0 : Mo (Ms K) H0 H0 := Mo.refl _ _
  have nx_hm0_hf := NxK.refl K H0.size
  have hbk_hf := hf.bk
  have hop0 := hB.op
  have hdm0 := hf.dml
  obtain ⟨D1, hD1⟩ : ∃ D1, D1 = D.begin.2 := ⟨_, rfl⟩
  have hB1 := hB.begin
  rw [← hD1] at hB1
  refine CW.seq (fun K1 hK1 hE1 => ?_)
  refine CW.region ?_
  refine LR.z (Z.boxv rfl rfl) (Wd.u rfl) rfl rfl (fun v5 H5 r5 => ?_)
  obtain ⟨rfl, vw, hs5, ob5, hH5⟩ := r5
  have hzs5 : H5.size = H0.size + 1 := by rw [hH5]; simp
  have dj1 : DL (H0.size + 1) K := DL.newK hf.bk
  have df2 := (DF.new (bf_mx.mono hm0.size) : DF _ (H0.size + 1))
  have df3 := (DF.new (bf_hd.mono hm0.size) : DF _ (H0.size + 1))
  have nx4 : Nx 0 H0.size (H0.size + 1) := Nx.new hm0.size
  replace hf := hf.nw hs5
  replace mx := mx.nw hs5
  replace hd := hd.nw hs5
  replace hm0 := hm0.trN hs5
  have hz1 := hs5.size
  replace vw : Var 149 H5 H0.size (fW x) := vw
  refine LR.v (Y.assign rfl rfl) (Wd.u rfl) rfl rfl ?_
  refine LR.nil ?_
  refine hK1 _ _ ?_
  refine CW.seq (fun K2 hK2 hE2 => ?_)
  refine CW.seq (fun K3 hK3 hE3 => ?_)
  refine CW.region ?_
  refine LR.v (Y.move rfl rfl) (Wd.u rfl) rfl rfl ?_
  -- call (*selvage/simfs.FS).begin
  refine LR.call rfl Tryz.call73 rfl (Wd.u rfl) rfl rfl (begin_ct K g b D w0 _ hf (by omega)) (fun v12 H12 r12 => ?_)
  obtain ⟨g1, rfl, hf, hg1, hs12⟩ := r12
  replace mx := mx.upL hs12 (dmx)
  replace hd := hd.upL hs12 (dfd)
  replace vw := vw.upL hs12 (dj1)
  replace hm0 := hm0.trL hs12 (MIL.ofK (nx_hm0_hf) (by intro k hk; simp [hk]))
  have hz2 := hs12.size
  rw [← hD1] at hf
  refine LR.v (Y.not rfl rfl) (Wd.u rfl) rfl rfl ?_
  refine LR.nil ?_
  refine hK3 _ _ ?_
  refine CW.cond rfl (fun c13 => ?_) (fun c13 => ?_)
  ·
    refine CW.seq (fun K4 hK4 hE4 => ?_)
    refine CW.region ?_
    refine LR.v (Y.assign rfl rfl) (Wd.u rfl) rfl rfl ?_
    refine LR.nil ?_
    refine hK4 _ _ ?_
    refine CW.ret (hE2 .ret nofun _ _ (hret .ret (.inr rfl) _ _ _ (res1 rfl rfl) ?_))
    have hdd := lay_dead (p := p) (w := x.1) (show D.begin.1 = false by simpa using c13)
    exact ⟨_, _, by rw [hdd]; rfl, by rw [hdd]; rw [hD1] at hf; exact hf, nx_hm0_hf, hm0⟩
  ·
    have hgo : D.begin.1 = true := by simpa using c13
    have hops := (begin_true hgo).1
    rw [← hD1] at hops
    have hlo := look_or D1 p
    have hlay := lay_go (p := p) (w := x.1) hgo
    rw [← hD1] at hlay
    refine CW.skip ?_
    refine hK2 _ _ ?_
    refine CW.seq (fun K5 hK5 hE5 => ?_)
    refine CW.region ?_
    refine LR.v (Y.move rfl rfl) (Wd.u rfl) rfl rfl ?_
    refine LR.v (Y.move rfl rfl) (Wd.u rfl) rfl rfl ?_
    -- call (*selvage/simfs.FS).find
    refine LR.call rfl Tryz.call63 rfl (Wd.u rfl) rfl rfl (find_ct mx_ K g1 b D1 p w0 _ mx (bf_mx.mono (by omega)) hf hl) (fun v17 H17 r17 => ?_)
    obtain ⟨rfl, hs17⟩ := r17
    replace hf := hf.nw hs17
    replace mx := mx.nw hs17
    replace hd := hd.nw hs17
    replace vw := vw.nw hs17
    replace hm0 := hm0.trN hs17
    have hz3 := hs17.size
    refine LR.v (Y.move rfl rfl) (Wd.u rfl) rfl rfl ?_
    refine LR.v (Y.extract rfl rfl rfl) (Wd.u rfl) rfl rfl ?_
    refine LR.v (Y.extract rfl rfl rfl) (Wd.u rfl) rfl rfl ?_
    refine LR.v (Y.assign rfl rfl) (Wd.u rfl) rfl rfl ?_
    refine LR.v (Y.assign rfl rfl) (Wd.u rfl) rfl rfl ?_
    refine LR.nil ?_
    refine hK5 _ _ ?_
    refine CW.seq (fun K6 hK6 hE6 => ?_)
    refine CW.seq (fun K7 hK7 hE7 => ?_)
    refine CW.region ?_
    refine LR.v (Y.move rfl rfl) (Wd.u rfl) rfl rfl ?_
    refine LR.v (Y.eql rfl rfl rfl) (Wd.u rfl) rfl rfl ?_
    refine LR.nil ?_
    refine hK7 _ _ ?_
    refine CW.condp rfl (fun c21 => ?_) (fun c21 => ?_)
    ·
      refine CW.seq (fun K8 hK8 hE8 => ?_)
      refine CW.region ?_
      refine LR.v (Y.move rfl rfl) (Wd.u rfl) rfl rfl ?_
      refine LR.v (Y.assign rfl rfl) (Wd.u rfl) rfl rfl ?_
      refine LR.nil ?_
      refine hK8 _ _ ?_
      refine CW.ret (hE6 .ret nofun _ _ (hret .ret (.inr rfl) _ _ _ (res1 rfl rfl) ?_))
      have hE : D1.layE p x.1 = 7 := layE_7 (look_7 (D := D1) (by omega))
      exact ⟨_, _, by rw [hlay, hE]; rw [show D1.look p = 7 by omega]; rfl, by rw [hlay]; simp only [hE]; exact hf, nx_hm0_hf, hm0⟩
    ·
      refine CW.skip ?_
      refine hK6 _ _ ?_
      refine CW.seq (fun K9 hK9 hE9 => ?_)
      refine CW.region ?_
      refine LR.v (Y.assign rfl rfl) (Wd.u rfl) rfl rfl ?_
      refine LR.nil ?_
      refine hK9 _ _ ?_
      refine CW.seq (fun K10 hK10 hE10 => ?_)
      refine CW.seq (fun K11 hK11 hE11 => ?_)
      refine CW.region ?_
      refine LR.v (Y.move rfl rfl) (Wd.u rfl) rfl rfl ?_
      refine LR.v (Y.peq rfl (by kernel_rfl) (by kernel_rfl) rfl rfl) (Wd.u rfl) rfl rfl ?_
      refine LR.nil ?_
      refine hK11 _ _ ?_
      refine CW.cond rfl (fun c24 => ?_) (fun c24 => ?_)
      ·
        have hlk : D1.look p = 2 := by
          rcases hlo with h | h | h
          · obtain ⟨_, i, hi⟩ := look_0 h
            rw [if_pos h, hi] at c24; cases c24
          · exact h
          · omega
        obtain ⟨hnm, hnow⟩ := look_2 hlk
        have hwas := was_none hnow
        have hwas0 : (D1.wasL p).length = 0 := by rw [hwas]; rfl
        refine CW.region ?_
        refine LR.v (Y.build (v := .agg #[.slice none 0 0, .slice none 0 0, .slice none 0 0]) rfl rfl (by intro w; kernel_rfl)) (Wd.u rfl) rfl rfl ?_
        refine LR.z (Z.boxv rfl rfl) (Wd.u rfl) rfl rfl (fun v26 H26 r26 => ?_)
        obtain ⟨rfl, vf, hs26, ob26, hH26⟩ := r26
        have hzs26 : H26.size = H17.size + 1 := by rw [hH26]; simp
        have dj5 : DL (H17.size + 1) K := DL.newK hf.bk
        have df6 := (DF.new (bf_mx.mono hm0.size) : DF _ (H17.size + 1))
        have df7 := (DF.new (bf_hd.mono hm0.size) : DF _ (H17.size + 1))
        have dj8 : Dj (H0.size + 1) (H17.size + 1) := Dj.new vw.lt
        have nx9 : Nx 0 H0.size (H17.size + 1) := Nx.new hm0.size
        replace hf := hf.nw hs26
        replace mx := mx.nw hs26
        replace hd := hd.nw hs26
        replace vw := vw.nw hs26
        replace hm0 := hm0.trN hs26
        have hz4 := hs26.size
        replace vf : Var 112 H26 H17.size ([.slice none 0 0, .slice none 0 0, .slice none 0 0]) := vf
        refine LR.v (Y.assign rfl rfl) (Wd.u rfl) rfl rfl ?_
        refine LR.nil ?_
        refine hK10 _ _ ?_
        refine CW.seq (fun K12 hK12 hE12 => ?_)
        refine CW.region ?_
        refine LR.v (Y.fieldAddr vw.pt rfl Tryz.runUnderlying149 rfl rfl Tryz.sizeOf34 (by decide) rfl) (Wd.u rfl) rfl rfl ?_
        refine LR.v (Y.load1 (vw.pt.drop 1) rfl Tryz.isAgg34 rfl) (Wd.u rfl) rfl rfl ?_
        refine LR.v (Y.len hd rfl Tryz.runUnderlying34 rfl) (Wd.u rfl) rfl rfl ?_
        refine LR.v (Y.assign rfl rfl) (Wd.u rfl) rfl rfl ?_
        refine LR.nil ?_
        refine hK12 _ _ ?_
        refine CW.cut (fun (sz : (Nat)) => [(0, ptr b), (1, Str p), (5, .pointer (some ⟨H0.size, 0, none⟩)), (7, ptr H17.size), (8, .int .i64 (D1.look p : Int)), (9, .int .i64 (0)), (10, .int .i64 (sz : Int))])
          (fun (sz : (Nat)) (H : Heap) => (sz = (x.1.on (D1.wasL p) x.1.d.length).length) ∧ ((D1.wasL p).length ≤ 274877906945) ∧ Nw H26 H) (fun K13 hK13 hE13 => ?_) ?_
        ·
          have hcm13 : Nw H26 H26 := Mo.refl _ _
          refine CW.seq (fun K14 hK14 hE14 => ?_)
          refine CW.region ?_
          refine LR.v (Y.fieldAddr vw.pt rfl Tryz.runUnderlying149 rfl rfl Tryz.sizeOf4 (by decide) rfl) (Wd.u rfl) rfl rfl ?_
          refine LR.v (Y.load1 vw.pt rfl Tryz.isAgg4 rfl) (Wd.u rfl) rfl rfl ?_
          refine LR.nil ?_
          refine hK14 _ _ ?_
          refine CW.cond rfl (fun c37 => ?_) (fun c37 => ?_)
          ·
            refine CW.region ?_
            refine LR.v (Y.move rfl rfl) (Wd.u rfl) rfl rfl ?_
            refine LR.v (Y.move rfl rfl) (Wd.u rfl) rfl rfl ?_
            refine LR.v (Y.addi rfl rfl rfl (by omega)) (Wd.u rfl) rfl rfl ?_
            refine LR.v (Y.assign rfl rfl) (Wd.u rfl) rfl rfl ?_
            refine LR.nil ?_
            refine QN.sub (hK13 ((D1.wasL p).length + x.1.d.length) _ ?_) ⟨rfl, rfl, rfl, rfl, (iv (by omega)), (iv (by omega)), (iv (by omega)), trivial⟩
            exact ⟨by rw [on_len, if_pos c37], by first | (rw [hwas]; omega) | (rw [hwas]; simp), hcm13⟩
          ·
            refine CW.skip ?_
            refine QN.sub (hK13 x.1.d.length _ ?_) ⟨rfl, rfl, rfl, rfl, (iv (by omega)), (iv (by omega)), (iv (by omega)), trivial⟩
            exact ⟨by rw [on_len, if_neg (by simpa using c37)]; omega, by first | (rw [hwas]; omega) | (rw [hwas]; simp), hcm13⟩
        ·
          intro sz Hcutc37 hIcutc37
          obtain ⟨hsz, hwl, hlmcutc37⟩ := hIcutc37
          replace hf := hf.nw hlmcutc37
          replace mx := mx.nw hlmcutc37
          replace hd := hd.nw hlmcutc37
          replace vw := vw.nw hlmcutc37
          replace vf := vf.nw hlmcutc37
          replace hm0 := hm0.trN hlmcutc37
          have hz5 := hlmcutc37.size
          have hus := hB1.us
          have hszl : sz ≤ 274877906945 + 274877906944 := by rw [hsz, on_len]; split <;> omega
          refine CW.seq (fun K15 hK15 hE15 => ?_)
          refine CW.block (fun K16 hK16 hX16 hE16 => ?_)
          refine CW.seq (fun K17 hK17 hE17 => ?_)
          refine CW.region ?_
          refine LR.v (Y.move rfl rfl) (Wd.u rfl) rfl rfl ?_
          refine LR.v (Y.move rfl rfl) (Wd.u rfl) rfl rfl ?_
          refine LR.v (Y.nilCheck rfl rfl) (Wd.u rfl) rfl rfl ?_
          refine LR.v (Y.fieldAddr hf.vb.pt rfl Tryz.runUnderlying73 rfl rfl Tryz.sizeOf3 (by decide) rfl) (Wd.u rfl) rfl rfl ?_
          refine LR.v (Y.load1 (hf.vb.pt.drop 1) rfl Tryz.isAgg3 rfl) (Wd.u rfl) rfl rfl ?_
          refine LR.v (Y.gtr rfl rfl rfl) (Wd.u rfl) rfl rfl ?_
          refine LR.v (Y.assign rfl rfl) (Wd.u rfl) rfl rfl ?_
          refine LR.nil ?_
          refine hK17 _ _ ?_
          refine CW.condp rfl (fun c41 => ?_) (fun c41 => ?_)
          ·
            refine CW.seq (fun K18 hK18 hE18 => ?_)
            refine CW.region ?_
            refine LR.v (Y.assign rfl rfl) (Wd.u rfl) rfl rfl ?_
            refine LR.nil ?_
            refine hK18 _ _ ?_
            refine CW.ret (hE16 .ret nofun (by simp) _ _ (hE15 .ret nofun _ _ (hret .ret (.inr rfl) _ _ _ (res1 rfl rfl) ?_)))
            have hE : D1.layE p x.1 = 5 := layE_5 hnm (by omega)
            exact ⟨_, _, by rw [hlay, hE]; rfl, by rw [hlay]; simp only [hE]; exact hf, nx_hm0_hf, hm0⟩
          ·
            refine CW.seq (fun K19 hK19 hE19 => ?_)
            refine CW.region_any (fun Hq => Nw Hcutc37 Hq) [] rfl ?_
            have hqs := Nw.refl Hcutc37
            refine LH.take 0 (by kernel_rfl) rfl (by kernel_rfl) (by kernel_rfl) (by kernel_rfl) (fun Hq hq => Y.move rfl rfl) (Wd.u rfl) rfl rfl hqs ?_
            refine LH.take 2 (by kernel_rfl) rfl (by kernel_rfl) (by kernel_rfl) (by kernel_rfl) (fun Hq hq => Y.move rfl rfl) (Wd.u rfl) rfl rfl hqs ?_
            refine LH.take 4 (by kernel_rfl) rfl (by kernel_rfl) (by kernel_rfl) (by kernel_rfl) (fun Hq hq => Y.move rfl rfl) (Wd.u rfl) rfl rfl hqs ?_
            refine LH.take 6 (by kernel_rfl) rfl (by kernel_rfl) (by kernel_rfl) (by kernel_rfl) (fun Hq hq => Y.move rfl rfl) (Wd.u rfl) rfl rfl hqs ?_
            refine LH.take 7 (by kernel_rfl) rfl (by kernel_rfl) (by kernel_rfl) (by kernel_rfl) (fun Hq hq => Y.nilCheck rfl rfl) (Wd.u rfl) rfl rfl hqs ?_
            refine LH.take 8 (by kernel_rfl) rfl (by kernel_rfl) (by kernel_rfl) (by kernel_rfl) (fun Hq hq => Y.fieldAddr (hf.vb.pt.nw hq) rfl Tryz.runUnderlying73 rfl rfl Tryz.sizeOf3 (by decide) rfl) (Wd.u rfl) rfl rfl hqs ?_
            refine LH.take 9 (by kernel_rfl) rfl (by kernel_rfl) (by kernel_rfl) (by kernel_rfl) (fun Hq hq => Y.load1 ((hf.vb.pt.drop 0).nw hq) rfl Tryz.isAgg3 rfl) (Wd.u rfl) rfl rfl hqs ?_
            refine LH.one (i := 1) (by kernel_rfl) ?_
            -- call (*selvage/simfs.FS).Used
            refine LO.call rfl rfl Tryz.call113 rfl (Wd.u rfl) rfl rfl (used_ct _ _ b D1 w0 _ hf hB1.an (by omega)) (fun v50 H50 r50 => ?_)
            obtain ⟨rfl, hs50⟩ := r50
            replace hf := hf.nw hs50
            replace mx := mx.nw hs50
            replace hd := hd.nw hs50
            replace vw := vw.nw hs50
            replace vf := vf.nw hs50
            replace hm0 := hm0.trN hs50
            have hz6 := hs50.size
            have hq50 := hqs.tr hs50
            refine ⟨.inr hq50, LH.narrow (SH2 := fun Hq => Nw H50 Hq) (fun Hq hq => hq50.tr hq) ?_⟩
            have hqn50 := Nw.refl H50
            refine LH.take 3 (by kernel_rfl) rfl (by kernel_rfl) (by kernel_rfl) (by kernel_rfl) (fun Hq hq => Y.subi rfl rfl rfl (by omega)) (Wd.u rfl) rfl rfl hqn50 ?_
            refine LH.take 5 (by kernel_rfl) rfl (by kernel_rfl) (by kernel_rfl) (by kernel_rfl) (fun Hq hq => Y.addi rfl rfl rfl (by omega)) (Wd.u rfl) rfl rfl hqn50 ?_
            refine LH.take 10 (by kernel_rfl) rfl (by kernel_rfl) (by kernel_rfl) (by kernel_rfl) (fun Hq hq => Y.gtr rfl rfl rfl) (Wd.u rfl) rfl rfl hqn50 ?_
            refine LH.take 11 (by kernel_rfl) rfl (by kernel_rfl) (by kernel_rfl) (by kernel_rfl) (fun Hq hq => Y.assign rfl rfl) (Wd.u rfl) rfl rfl hqn50 ?_
            refine LH.done (by kernel_rfl) ?_
            have hqe := hqn50
            refine hK19 _ _ ?_
            refine CW.condp rfl (fun c48 => ?_) (fun c48 => ?_)
            ·
              refine CW.seq (fun K20 hK20 hE20 => ?_)
              refine CW.region ?_
              refine LR.v (Y.assign rfl rfl) (Wd.u rfl) rfl rfl ?_
              refine LR.nil ?_
              refine hK20 _ _ ?_
              refine CW.ret (hE16 .ret nofun (by simp) _ _ (hE15 .ret nofun _ _ (hret .ret (.inr rfl) _ _ _ (res1 rfl rfl) ?_)))
              have hE : D1.layE p x.1 = 12 := layE_12 hnm (by omega) (by omega)
              exact ⟨_, _, by rw [hlay, hE]; rfl, by rw [hlay]; simp only [hE]; exact hf, nx_hm0_hf, hm0⟩
            ·
              refine CW.skip ?_
              refine hK16 _ _ ?_
              refine hK15 _ _ ?_
              refine CW.seq (fun K21 hK21 hE21 => ?_)
              refine CW.seq (fun K22 hK22 hE22 => ?_)
              refine CW.region ?_
              refine LR.v (Y.move rfl rfl) (Wd.u rfl) rfl rfl ?_
              refine LR.v (Y.eql rfl rfl rfl) (Wd.u rfl) rfl rfl ?_
              refine LR.nil ?_
              refine hK22 _ _ ?_
              refine CW.condp rfl (fun c61 => ?_) (fun c61 => ?_)
              ·
                have hlen1 := hf.len
                refine CW.region ?_
                refine LR.v (Y.move rfl rfl) (Wd.u rfl) rfl rfl ?_
                refine LR.v (Y.move rfl rfl) (Wd.u rfl) rfl rfl ?_
                -- call selvage/simfs.Dir
                refine LR.call rfl Tryz.call52 rfl (Wd.u rfl) rfl rfl (dir_ct mx_ p w0 _ mx (bf_mx.mono (by omega)) hl) (fun v64 H64 r64 => ?_)
                obtain ⟨rfl, hs64⟩ := r64
                replace hf := hf.nw hs64
                replace mx := mx.nw hs64
                replace hd := hd.nw hs64
                replace vw := vw.nw hs64
                replace vf := vf.nw hs64
                replace hm0 := hm0.trN hs64
                have hz7 := hs64.size
                refine LR.v (Y.move rfl rfl) (Wd.u rfl) rfl rfl ?_
                refine LR.v (Y.move rfl rfl) (Wd.u rfl) rfl rfl ?_
                refine LR.v (Y.cast (v2 := .agg (fC (g1.fb ++ [H17.size]) ⟨[], p, some D1.fs.length⟩).toArray) (Y.build (v := .agg #[Str [], Str p, ptr H17.size]) rfl rfl (by intro w; kernel_rfl)) (by simp [fC, fpt, List.getD, ← hf.len])) (Wd.u rfl) rfl rfl ?_
                have df10 := DFL.cons (df6) (dmx)
                have df11 := DFL.cons (df7) (dfd)
                have dj12 : DL (H0.size + 1) ((H17.size + 1) :: K) := DL.cons (dj8) (dj1)
                have nx13 := NxK.cons (nx9) (nx_hm0_hf)
                replace hf := hf.newFil vf (dj5)
                have hbk_hf := hf.bk
                -- call (*selvage/simfs.FS).change
                refine LR.call rfl Tryz.call85 rfl (Wd.u rfl) rfl rfl (change_ct ((H17.size + 1) :: K) { g1 with ρ := upr g1.ρ H17.size (.fil D1.fs.length), fb := g1.fb ++ [H17.size] } b { D1 with fs := D1.fs ++ [⟨[], [], []⟩] } (dirP p) ⟨[], p, some D1.fs.length⟩ w0 _ hf (by show g1.dm.length + 1 ≤ D1.ops; rw [hg1.2.2.2]; omega) (by simp [Chg.dir]) (fun i hi => by cases hi; exact ⟨rfl, by simp⟩) (fun h => absurd rfl h) (by have := hB1.lg; show D1.log.length ≤ _; omega)) (fun v68 H68 r68 => ?_)
                have ql14 := hf.bk
                have ql15 := vw.lt
                obtain ⟨K68, g68, rfl, hf, hkd68, hg68, hs68⟩ := r68
                have df16 := DFL.appK (df10) (bf_mx.mono hm0.size) hkd68
                have df17 := DFL.appK (df11) (bf_hd.mono hm0.size) hkd68
                have dj18 : DL (H0.size + 1) K68 := DL.appK (dj12) ql15 hkd68
                have nx19 : NxK K H0.size K68 := NxK.tr (nx13) hkd68 hm0.size
                replace mx := mx.upL hs68 (df10)
                replace hd := hd.upL hs68 (df11)
                replace vw := vw.upL hs68 (dj12)
                replace hm0 := hm0.trL hs68 (MIL.ofK (nx13) (by intro k hk; simp [hk]))
                have hz8 := hs68.size
                have hbk_hf := hf.bk
                obtain ⟨i, hie⟩ : ∃ i, i = D1.fs.length := ⟨_, rfl⟩
                have hil : i < (mk1 D1 p).fs.length := by rw [hie]; exact mk1_len D1 p
                have hbi0 : g68.fb.getD i 0 = H17.size := by rw [hg68, hie]; simp [List.getD, ← hlen1]
                obtain ⟨bi, hbi, hbv⟩ : ∃ bi, g68.fb.getD i 0 = bi ∧ ptr H17.size = ptr bi := ⟨_, hbi0, rfl⟩
                have hnow2 : (fget (mk1 D1 p).fs i).now = D1.wasL p := by rw [hie, mk1_get, hwas]
                have hwi : (fget (mk1 D1 p).fs i).w.length ≤ 274877906945 := by rw [hie, mk1_get]; simp
                replace hf : PDk K68 g68 H68 b (mk1 D1 p) := hf
                refine LR.nil ?_
                refine hK21 _ _ ?_
                refine CW.seq (fun K23 hK23 hE23 => ?_)
                refine CW.region ?_
                refine LR.v (Y.fieldAddr vw.pt rfl Tryz.runUnderlying149 rfl rfl Tryz.sizeOf34 (by decide) rfl) (Wd.u rfl) rfl rfl ?_
                refine LR.v (Y.load1 (vw.pt.drop 1) rfl Tryz.isAgg34 rfl) (Wd.u rfl) rfl rfl ?_
                -- call slices.Clone[[]byte,byte]
                refine LR.call rfl Tryz.call64 rfl (Wd.u rfl) rfl rfl (bclone_ct _ x.1.d w0 _ hd.any (by omega)) (fun v71 H71 r71 => ?_)
                obtain ⟨s71, k71, rfl, ow71, hk71, hs71⟩ := r71
                have dj20 : DL k71 K68 := DL.app2 (DL.zK) hf.bk hk71
                have df21 := DF.app (DF.z) (bf_mx.mono hm0.size) hk71
                have df22 := DF.app (DF.z) (bf_hd.mono hm0.size) hk71
                have dj23 : Dj (H0.size + 1) k71 := Dj.app (Dj.z) vw.lt hk71
                have nx24 : Nx 0 H0.size k71 := Nx.tr (Nx.refl 0 _) hk71 hm0.size
                replace hf := hf.nw hs71
                replace mx := mx.nw hs71
                replace hd := hd.nw hs71
                replace vw := vw.nw hs71
                replace hm0 := hm0.trN hs71
                have hz9 := hs71.size
                have hle_ow71 := ow71.le
                refine LR.v (Y.fieldAddr vw.pt rfl Tryz.runUnderlying149 rfl rfl Tryz.sizeOf34 (by decide) rfl) (Wd.u rfl) rfl rfl ?_
                refine LR.s (S.var1 vw 1 ([.bool x.1.b, s71.v]) rfl rfl rfl (rfl) Tryz.sizeOf34 (by simp) (rfl)) (Wd.u rfl) rfl (fun H19_4 r19_4 => ?_)
                obtain ⟨vw, hs19_4⟩ := r19_4
                replace hs19_4 := hs19_4.md1
                replace hf := hf.upL hs19_4 (DKL.cons dj18 DKL.nil)
                replace mx := mx.upL hs19_4 (DFL.cons df2 DFL.nil)
                replace hd := hd.upL hs19_4 (DFL.cons df3 DFL.nil)
                replace ow71 := ow71.upL hs19_4 (DL.cons dj23.symm DL.nil)
                replace hm0 := hm0.trL hs19_4 (MIL.cons (MI.app MI.z (nx4) (Nat.le_refl _)) MIL.nil)
                have hz10 := hs19_4.size
                refine LR.nil ?_
                refine hK23 _ _ ?_
                refine CW.seq (fun K24 hK24 hE24 => ?_)
                obtain ⟨nvB, svB, wvB, kwB, lwB, hfiB⟩ := hf.fil i hil
                have hop : Mo (Ms [(bi + 1)]) H19_4 H19_4 := Mo.refl _ _
                have km25 : KM K68 (bi + 1) := (hf.kmf hfiB hbi)
                have vf2 := hfiB.atb hbi
                have hlt_vf2 := vf2.lt
                have df26 := DFL.at (df16) km25
                have df27 := DFL.at (df17) km25
                have dj28 : Dj (H0.size + 1) (bi + 1) := DL.at (dj18) km25
                have dj29 : Dj k71 (bi + 1) := DL.at (dj20) km25
                have nx30 : MI K H0.size (bi + 1) := MIL.at (MIL.ofK (nx19) (by intro k hk; simp [hk])) km25
                have nx31 := Nx.refl (bi + 1) H19_4.size
                refine CW.region_any (fun Hq => Nw H19_4 Hq) [11, 12, 13, 14] rfl ?_
                have hq20 : Nw H19_4 H19_4 := Mo.refl _ _
                refine LH.take 0 (by kernel_rfl) rfl (by kernel_rfl) (by kernel_rfl) (by kernel_rfl) (fun Hq hq => Y.cast (v2 := ptr bi) (Y.move rfl rfl) (hbv)) (Wd.u rfl) rfl rfl hq20 ?_
                refine LH.take 1 (by kernel_rfl) rfl (by kernel_rfl) (by kernel_rfl) (by kernel_rfl) (fun Hq hq => Y.loadN (vw.pt.nw hq) rfl Tryz.isAgg149 Tryz.sizeOf149 (rfl) rfl) (Wd.u rfl) rfl rfl hq20 ?_
                refine LH.take 2 (by kernel_rfl) rfl (by kernel_rfl) (by kernel_rfl) (by kernel_rfl) (fun Hq hq => Y.cast (v2 := ptr bi) (Y.move rfl rfl) (hbv)) (Wd.u rfl) rfl rfl hq20 ?_
                refine LH.take 3 (by kernel_rfl) rfl (by kernel_rfl) (by kernel_rfl) (by kernel_rfl) (fun Hq hq => Y.nilCheck rfl rfl) (Wd.u rfl) rfl rfl hq20 ?_
                refine LH.take 4 (by kernel_rfl) rfl (by kernel_rfl) (by kernel_rfl) (by kernel_rfl) (fun Hq hq => Y.fieldAddr (vf2.pt.nw hq) rfl Tryz.runUnderlying112 rfl rfl Tryz.sizeOf109 (by decide) rfl) (Wd.u rfl) rfl rfl hq20 ?_
                refine LH.take 5 (by kernel_rfl) rfl (by kernel_rfl) (by kernel_rfl) (by kernel_rfl) (fun Hq hq => Y.fieldAddr (vf2.pt.nw hq) rfl Tryz.runUnderlying109 rfl rfl Tryz.sizeOf34 (by decide) rfl) (Wd.u rfl) rfl rfl hq20 ?_
                refine LH.take 6 (by kernel_rfl) rfl (by kernel_rfl) (by kernel_rfl) (by kernel_rfl) (fun Hq hq => Y.load1 (vf2.pt.nw hq) rfl Tryz.isAgg34 rfl) (Wd.u rfl) rfl rfl hq20 ?_
                refine LH.take 7 (by kernel_rfl) rfl (by kernel_rfl) (by kernel_rfl) (by kernel_rfl) (fun Hq hq => Y.fieldAddr (vw.pt.nw hq) rfl Tryz.runUnderlying149 rfl rfl Tryz.sizeOf34 (by decide) rfl) (Wd.u rfl) rfl rfl hq20 ?_
                refine LH.take 8 (by kernel_rfl) rfl (by kernel_rfl) (by kernel_rfl) (by kernel_rfl) (fun Hq hq => Y.load1 ((vw.pt.drop 1).nw hq) rfl Tryz.isAgg34 rfl) (Wd.u rfl) rfl rfl hq20 ?_
                refine LH.take 9 (by kernel_rfl) rfl (by kernel_rfl) (by kernel_rfl) (by kernel_rfl) (fun Hq hq => Y.len (ow71.rd.nw hq) rfl Tryz.runUnderlying34 rfl) (Wd.u rfl) rfl rfl hq20 ?_
                refine LH.one (i := 10) (by kernel_rfl) ?_
                -- call (selvage/simfs.write).on
                refine LO.call rfl rfl Tryz.call84 rfl (Wd.u rfl) rfl rfl (on_ct (x.1, s71) nvB _ x.1.d.length w0 _ ow71.rd.any hfiB.hn.any (Nat.le_refl _) (by rw [hnow2]; omega)) (fun v83 H83 r83 => ?_)
                obtain ⟨s83, k83, rfl, ow83, hk83, hs83⟩ := r83
                have df32 := DF.app (DF.z) (bf_mx.mono hm0.size) hk83
                have df33 := DF.app (DF.z) (bf_hd.mono hm0.size) hk83
                have dj34 : Dj (H0.size + 1) k83 := Dj.app (Dj.z) vw.lt hk83
                have dj35 : Dj k71 k83 := Dj.app (Dj.z) ow71.le hk83
                have dj36 : Dj (bi + 1) k83 := Dj.app (Dj.z) vf2.lt hk83
                have nx37 : Nx 0 H0.size k83 := Nx.tr (Nx.refl 0 _) hk83 hm0.size
                have nx38 : Nx 0 H19_4.size k83 := Nx.tr (Nx.refl 0 _) hk83 hop.size
                have nx39 : Nx 0 H19_4.size k83 := Nx.tr (Nx.refl 0 _) hk83 hq20.size
                replace mx := mx.nw hs83
                replace hd := hd.nw hs83
                replace vw := vw.nw hs83
                replace ow71 := ow71.nw hs83
                replace vf2 := vf2.nw hs83
                replace hm0 := hm0.trN hs83
                replace hop := hop.trN hs83
                replace hq20 := hq20.tr hs83
                have hz11 := hs83.size
                have hle_ow83 := ow83.le
                refine ⟨.inr hq20, LH.narrow (SH2 := fun Hq => Mo (Ms [k83]) H83 Hq) (fun Hq hq => (Mo.trL (ks := []) (hq20.mdn []) hq (MIL.cons (MI.app MI.z (nx39) (Nat.le_refl _)) MIL.nil)).nil) ?_⟩
                have hq20 : Mo (Ms [k83]) H83 H83 := Mo.refl _ _
                have nx40 := Nx.refl k83 H83.size
                refine LH.one (i := 11) (by kernel_rfl) ?_
                refine LO.v rfl (Y.nilCheck rfl rfl) (Wd.u rfl) rfl rfl (.inl rfl) ?_
                refine LH.one (i := 12) (by kernel_rfl) ?_
                refine LO.v rfl (Y.fieldAddr vf2.pt rfl Tryz.runUnderlying112 rfl rfl Tryz.sizeOf109 (by decide) rfl) (Wd.u rfl) rfl rfl (.inl rfl) ?_
                refine LH.one (i := 13) (by kernel_rfl) ?_
                refine LO.v rfl (Y.fieldAddr vf2.pt rfl Tryz.runUnderlying109 rfl rfl Tryz.sizeOf34 (by decide) rfl) (Wd.u rfl) rfl rfl (.inl rfl) ?_
                refine LH.one (i := 14) (by kernel_rfl) ?_
                refine LO.s rfl (S.var1 vf2 0 ([s83.v, svB.v, wvB.v]) rfl rfl rfl (rfl) Tryz.sizeOf34 (by simp) (rfl)) (Wd.u rfl) rfl (fun H20_14 r20_14 => ?_)
                obtain ⟨vf2, hs20_14⟩ := r20_14
                replace hs20_14 := hs20_14.md1
                replace mx := mx.upL hs20_14 (DFL.cons df26 DFL.nil)
                replace hd := hd.upL hs20_14 (DFL.cons df27 DFL.nil)
                replace vw := vw.upL hs20_14 (DL.cons dj28 DL.nil)
                replace ow71 := ow71.upL hs20_14 (DL.cons dj29 DL.nil)
                replace ow83 := ow83.upL hs20_14 (DL.cons dj36.symm DL.nil)
                replace hm0 := hm0.trL hs20_14 (MIL.cons (nx30) MIL.nil)
                replace hop := hop.trL hs20_14 (MIL.cons (MI.app (MI.root (by simp)) (nx31) (Nat.le_refl _)) MIL.nil)
                -- LOST hq20
                have hz12 := hs20_14.size
                refine ⟨.inl rfl, ?_⟩
                refine LH.done (by kernel_rfl) ?_
                have dj41 : DL (H0.size + 1) (k83 :: K68) := (DL.cons (dj34) (dj18))
                have dj42 : DL k71 (k83 :: K68) := (DL.cons (dj35) (dj20))
                have df43 : DFL _ (k83 :: K68) := (DFL.cons (df32) (df16))
                have df44 : DFL _ (k83 :: K68) := (DFL.cons (df33) (df17))
                have nx45 : NxK K H0.size (k83 :: K68) := (NxK.cons (nx37) (nx19))
                replace hf := hf.fnow hil hfiB hbi hop vf2 ow83 (DL.nxK hf.bk (nx38))
                have hbk_hf := hf.bk
                refine hK24 _ _ ?_
                refine CW.seq (fun K25 hK25 hE25 => ?_)
                have hil2 := hil
                rw [← fl_put] at hil2
                obtain ⟨nvC, svC, wvC, kwC, lwC, hfiC⟩ := hf.fil i hil2
                have hlw : lwC.length ≤ 274877906945 := by have h9 := congrArg List.length hfiC.lw; rw [List.length_map, fget_put hil] at h9; rw [h9]; exact hwi
                have hop : Mo (Ms [(bi + 1), kwC]) H20_14 H20_14 := Mo.refl _ _
                have km46 : KM (k83 :: K68) (bi + 1) := (hf.kmf hfiC hbi)
                have vf2 := hfiC.atb hbi
                have hlt_vf2 := vf2.lt
                have df47 := DFL.at (df43) km46
                have df48 := DFL.at (df44) km46
                have dj49 : Dj (H0.size + 1) (bi + 1) := DL.at (dj41) km46
                have dj50 : Dj k71 (bi + 1) := DL.at (dj42) km46
                have nx51 : MI K H0.size (bi + 1) := MIL.at (MIL.ofK (nx45) (by intro k hk; simp [hk])) km46
                have nx52 := Nx.refl (bi + 1) H20_14.size
                have km53 : KM (k83 :: K68) kwC := (hf.km hfiC.rk (by simp))
                have hw := hfiC.hw
                have hle_hw := hw.le
                have df54 := DFL.at (df43) km53
                have df55 := DFL.at (df44) km53
                have dj56 : Dj (H0.size + 1) kwC := DL.at (dj41) km53
                have dj57 : Dj k71 kwC := DL.at (dj42) km53
                have nx58 : MI K H0.size kwC := MIL.at (MIL.ofK (nx45) (by intro k hk; simp [hk])) km53
                have nx59 := Nx.refl kwC H20_14.size
                have dj60 : Dj (bi + 1) kwC := hfiC.ne hbi
                refine CW.region_any (fun Hq => Mo (Ms [kwC]) H20_14 Hq) [8, 9, 10] rfl ?_
                have hq21 : Mo (Ms [kwC]) H20_14 H20_14 := Mo.refl _ _
                have nx61 := Nx.refl kwC H20_14.size
                refine LH.take 0 (by kernel_rfl) rfl (by kernel_rfl) (by kernel_rfl) (by kernel_rfl) (fun Hq hq => Y.cast (v2 := ptr bi) (Y.move rfl rfl) (hbv)) (Wd.u rfl) rfl rfl hq21 ?_
                refine LH.take 1 (by kernel_rfl) rfl (by kernel_rfl) (by kernel_rfl) (by kernel_rfl) (fun Hq hq => Y.cast (v2 := ptr bi) (Y.move rfl rfl) (hbv)) (Wd.u rfl) rfl rfl hq21 ?_
                refine LH.take 2 (by kernel_rfl) rfl (by kernel_rfl) (by kernel_rfl) (by kernel_rfl) (fun Hq hq => Y.nilCheck rfl rfl) (Wd.u rfl) rfl rfl hq21 ?_
                refine LH.take 3 (by kernel_rfl) rfl (by kernel_rfl) (by kernel_rfl) (by kernel_rfl) (fun Hq hq => Y.fieldAddr (vf2.upL hq (DL.cons dj60 DL.nil)).pt rfl Tryz.runUnderlying112 rfl rfl Tryz.sizeOf110 (by decide) rfl) (Wd.u rfl) rfl rfl hq21 ?_
                refine LH.take 4 (by kernel_rfl) rfl (by kernel_rfl) (by kernel_rfl) (by kernel_rfl) (fun Hq hq => Y.load1 ((vf2.upL hq (DL.cons dj60 DL.nil)).pt.drop 2) rfl Tryz.isAgg110 rfl) (Wd.u rfl) rfl rfl hq21 ?_
                refine LH.take 5 (by kernel_rfl) rfl (by kernel_rfl) (by kernel_rfl) (by kernel_rfl) (fun Hq hq => Y.loadN (vw.upL hq (DL.cons dj56 DL.nil)).pt rfl Tryz.isAgg149 Tryz.sizeOf149 (rfl) rfl) (Wd.u rfl) rfl rfl hq21 ?_
                refine LH.one (i := 6) (by kernel_rfl) ?_
                refine LO.z rfl (Z.litw _ ([(x.1, s71)]) rfl inf110 rfl rfl rfl (by decide) (by decide) fW_len fW_one (rfl)) (Wd.u rfl) rfl rfl (fun v93 H93 r93 => ?_)
                obtain ⟨ow93, hs93, ob93, hH93⟩ := r93
                have hzs93 : H93.size = H20_14.size + 1 := by rw [hH93]; simp
                have df62 := (DF.new (bf_mx.mono hm0.size) : DF _ (H20_14.size + 1))
                have df63 := (DF.new (bf_hd.mono hm0.size) : DF _ (H20_14.size + 1))
                have dj64 : Dj (H0.size + 1) (H20_14.size + 1) := Dj.new vw.lt
                have dj65 : Dj k71 (H20_14.size + 1) := Dj.new ow71.le
                have dj66 : Dj (bi + 1) (H20_14.size + 1) := Dj.new vf2.lt
                have dj67 : Dj kwC (H20_14.size + 1) := Dj.new hw.le
                have nx68 : Nx 0 H0.size (H20_14.size + 1) := Nx.new hm0.size
                have nx69 : Nx 0 H20_14.size (H20_14.size + 1) := Nx.new hop.size
                have nx70 : Nx 0 H20_14.size (H20_14.size + 1) := Nx.new hq21.size
                replace mx := mx.nw hs93
                replace hd := hd.nw hs93
                replace vw := vw.nw hs93
                replace ow71 := ow71.nw hs93
                replace vf2 := vf2.nw hs93
                replace hw := hw.nw hs93
                replace hm0 := hm0.trN hs93
                replace hop := hop.trN hs93
                replace hq21 := hq21.trN hs93
                have hz13 := hs93.size
                refine ⟨.inr hq21, LH.narrow (SH2 := fun Hq => Mo (Ms [kwC, (H20_14.size + 1)]) H93 Hq) (fun Hq hq => hq21.trL hq (MIL.cons (MI.app (MI.root (by simp)) (nx61) (Nat.le_refl _)) (MIL.cons (MI.app MI.z (nx70) (Nat.le_refl _)) MIL.nil))) ?_⟩
                have hq21 : Mo (Ms [kwC, (H20_14.size + 1)]) H93 H93 := Mo.refl _ _
                have nx71 := Nx.refl kwC H93.size
                have nx72 := Nx.refl (H20_14.size + 1) H93.size
                refine LH.one (i := 7) (by kernel_rfl) ?_
                refine LO.z rfl (Z.apnd hw ow93.rd rfl inf110 rfl rfl (by first | omega | (simp; omega)) (by first | omega | (simp; omega))) (Wd.u rfl) rfl rfl (fun v94 H94 r94 => ?_)
                obtain ⟨kw2, hw, hk94, hs94⟩ := r94
                replace hk94 : Nx kwC H93.size kw2 := hk94
                replace hs94 := hs94.md
                have df73 := DF.app (df54) (bf_mx.mono hm0.size) hk94
                have df74 := DF.app (df55) (bf_hd.mono hm0.size) hk94
                have dj75 : Dj (H0.size + 1) kw2 := Dj.app (dj56) vw.lt hk94
                have dj76 : Dj k71 kw2 := Dj.app (dj57) ow71.le hk94
                have dj77 : Dj (bi + 1) kw2 := Dj.app (dj60) vf2.lt hk94
                have dj78 : Dj (H20_14.size + 1) kw2 := Dj.app (dj67.symm) ow93.le hk94
                have nx79 : MI K H0.size kw2 := MI.app (nx58) hk94 hm0.size
                have nx80 : Nx kwC H20_14.size kw2 := Nx.tr (nx59) hk94 hop.size
                have nx81 : Nx kwC H93.size kw2 := Nx.tr (nx71) hk94 hq21.size
                replace mx := mx.upL hs94 (DFL.cons df54 DFL.nil)
                replace hd := hd.upL hs94 (DFL.cons df55 DFL.nil)
                replace vw := vw.upL hs94 (DL.cons dj56 DL.nil)
                replace ow71 := ow71.upL hs94 (DL.cons dj57 DL.nil)
                replace vf2 := vf2.upL hs94 (DL.cons dj60 DL.nil)
                replace ow93 := ow93.upL hs94 (DL.cons dj67.symm DL.nil)
                replace hm0 := hm0.trL hs94 (MIL.cons (nx58) MIL.nil)
                replace hop := hop.trL hs94 (MIL.cons (MI.app (MI.root (by simp)) (nx59) (Nat.le_refl _)) MIL.nil)
                replace hq21 := hq21.trL hs94 (MIL.cons (MI.app (MI.root (by simp)) (nx71) (Nat.le_refl _)) MIL.nil)
                have hz14 := hs94.size
                have hle_hw := hw.le
                refine ⟨.inr hq21, LH.narrow (SH2 := fun Hq => Mo (Ms [kw2, (H20_14.size + 1)]) H94 Hq) (fun Hq hq => hq21.trL hq (MIL.cons (MI.app (MI.root (by simp)) (nx81) (Nat.le_refl _)) (MIL.cons (MI.app (MI.root (by simp)) (nx72) (Nat.le_refl _)) MIL.nil))) ?_⟩
                have hq21 : Mo (Ms [kw2, (H20_14.size + 1)]) H94 H94 := Mo.refl _ _
                have nx82 := Nx.refl kw2 H94.size
                have nx83 := Nx.refl (H20_14.size + 1) H94.size
                refine LH.one (i := 8) (by kernel_rfl) ?_
                refine LO.v rfl (Y.nilCheck rfl rfl) (Wd.u rfl) rfl rfl (.inl rfl) ?_
                refine LH.one (i := 9) (by kernel_rfl) ?_
                refine LO.v rfl (Y.fieldAddr vf2.pt rfl Tryz.runUnderlying112 rfl rfl Tryz.sizeOf110 (by decide) rfl) (Wd.u rfl) rfl rfl (.inl rfl) ?_
                refine LH.one (i := 10) (by kernel_rfl) ?_
                refine LO.s rfl (S.var1 vf2 2 ([nvC.v, svC.v, v94]) rfl rfl rfl (hw.rd.oneCell) Tryz.sizeOf110 (by simp) (rfl)) (Wd.u rfl) rfl (fun H21_10 r21_10 => ?_)
                obtain ⟨vf2, hs21_10⟩ := r21_10
                replace hs21_10 := hs21_10.md1
                replace mx := mx.upL hs21_10 (DFL.cons df47 DFL.nil)
                replace hd := hd.upL hs21_10 (DFL.cons df48 DFL.nil)
                replace vw := vw.upL hs21_10 (DL.cons dj49 DL.nil)
                replace ow71 := ow71.upL hs21_10 (DL.cons dj50 DL.nil)
                replace hw := hw.upL hs21_10 (DL.cons dj77.symm DL.nil)
                replace ow93 := ow93.upL hs21_10 (DL.cons dj66.symm DL.nil)
                replace hm0 := hm0.trL hs21_10 (MIL.cons (nx51) MIL.nil)
                replace hop := hop.trL hs21_10 (MIL.cons (MI.app (MI.root (by simp)) (nx52) (Nat.le_refl _)) MIL.nil)
                -- LOST hq21
                have hz15 := hs21_10.size
                refine ⟨.inl rfl, ?_⟩
                refine LH.done (by kernel_rfl) ?_
                obtain ⟨wv2, rfl⟩ : ∃ s : SV, v94 = s.v := ⟨toSV v94, hw.sv.symm⟩
                have dj84 : DL (H0.size + 1) (k71 :: (kw2 :: (k83 :: K68))) := (DL.cons (dj23) ((DL.cons (dj75) (dj41))))
                have df85 : DFL _ (k71 :: (kw2 :: (k83 :: K68))) := (DFL.cons (df21) ((DFL.cons (df73) (df43))))
                have df86 : DFL _ (k71 :: (kw2 :: (k83 :: K68))) := (DFL.cons (df22) ((DFL.cons (df74) (df44))))
                have nx87 : NxK K H0.size (k71 :: (kw2 :: (k83 :: K68))) := (NxK.cons (nx24) ((NxK.app (nx45) (km53) (nx80) (by omega))))
                replace hf := hf.fwr hil2 hfiC hbi hop vf2 hw (nx80) ow71 (DL.cons (dj76) (dj42))
                have hbk_hf := hf.bk
                refine hK25 _ _ ?_
                refine CW.seq (fun K26 hK26 hE26 => ?_)
                refine CW.region ?_
                refine LR.v (Y.assign rfl rfl) (Wd.u rfl) rfl rfl ?_
                refine LR.nil ?_
                refine hK26 _ _ ?_
                refine CW.ret (hret .ret (.inr rfl) _ _ _ (res1 rfl rfl) ?_)
                have hE0 : D1.layE p x.1 = 0 := layE_0 hnm (by omega) (by omega)
                exact ⟨_, _, by rw [hlay, hE0]; rfl, by rw [hlay]; simp only [hE0, if_true]; first | (rw [← write_some hnow hil]; rw [← hwas] at hf; exact hf) | (rw [← write_none hnow]; subst hie; exact hf), nx87, hm0⟩
              ·
                exfalso; omega
      ·
        have hlk : D1.look p = 0 := by
          rcases hlo with h | h | h
          · exact h
          · rw [if_neg (by omega)] at c24; cases c24
          · omega
        obtain ⟨hnm, i, hnow⟩ := look_0 hlk
        have hil := hf.ids.1 p i hnow
        have hwas := was_some hnow
        obtain ⟨bi, hbi, hbv⟩ : ∃ bi, g1.fb.getD i 0 = bi ∧ .pointer (fpt g1.fb (if D1.look p = 0 then mget D1.now p else none)) = ptr bi := ⟨_, rfl, by rw [if_pos hlk, hnow]; rfl⟩
        have hnow2 := hwas.symm
        have hnwi := hB1.nw i
        have hwasl : (D1.wasL p).length ≤ 274877906945 := by rw [hwas]; exact hnwi
        have hwi := hB1.w i
        obtain ⟨nvA, svA, wvA, kwA, lwA, hfiA⟩ := hf.fil i hil
        refine CW.region ?_
        refine LR.v (Y.cast (v2 := fvl g1.fb i) (Y.move rfl rfl) (by rw [if_pos hlk, hnow]; rfl)) (Wd.u rfl) rfl rfl ?_
        refine LR.v (Y.nilCheck rfl rfl) (Wd.u rfl) rfl rfl ?_
        refine LR.v (Y.fieldAddr hfiA.vf.pt rfl Tryz.runUnderlying112 rfl rfl Tryz.sizeOf109 (by decide) rfl) (Wd.u rfl) rfl rfl ?_
        refine LR.v (Y.fieldAddr (hfiA.vf.pt.drop 0) rfl Tryz.runUnderlying109 rfl rfl Tryz.sizeOf34 (by decide) rfl) (Wd.u rfl) rfl rfl ?_
        refine LR.v (Y.load1 ((hfiA.vf.pt.drop 0).drop 0) rfl Tryz.isAgg34 rfl) (Wd.u rfl) rfl rfl ?_
        refine LR.v (Y.cast (v2 := .int .i64 ((D1.wasL p).length : Int)) (Y.len hfiA.hn rfl Tryz.runUnderlying34 rfl) (by rw [hwas])) (Wd.u rfl) rfl rfl ?_
        refine LR.v (Y.assign rfl rfl) (Wd.u rfl) rfl rfl ?_
        refine LR.nil ?_
        refine hK10 _ _ ?_
        refine CW.seq (fun K27 hK27 hE27 => ?_)
        refine CW.region ?_
        refine LR.v (Y.fieldAddr vw.pt rfl Tryz.runUnderlying149 rfl rfl Tryz.sizeOf34 (by decide) rfl) (Wd.u rfl) rfl rfl ?_
        refine LR.v (Y.load1 (vw.pt.drop 1) rfl Tryz.isAgg34 rfl) (Wd.u rfl) rfl rfl ?_
        refine LR.v (Y.len hd rfl Tryz.runUnderlying34 rfl) (Wd.u rfl) rfl rfl ?_
        refine LR.v (Y.assign rfl rfl) (Wd.u rfl) rfl rfl ?_
        refine LR.nil ?_
        refine hK27 _ _ ?_
        refine CW.cut (fun (sz : (Nat)) => [(0, ptr b), (1, Str p), (5, .pointer (some ⟨H0.size, 0, none⟩)), (7, .pointer (fpt g1.fb (if D1.look p = 0 then mget D1.now p else none))), (8, .int .i64 (D1.look p : Int)), (9, .int .i64 ((D1.wasL p).length : Int)), (10, .int .i64 (sz : Int))])
          (fun (sz : (Nat)) (H : Heap) => (sz = (x.1.on (D1.wasL p) x.1.d.length).length) ∧ ((D1.wasL p).length ≤ 274877906945) ∧ Nw H17 H) (fun K28 hK28 hE28 => ?_) ?_
        ·
          have hcm28 : Nw H17 H17 := Mo.refl _ _
          refine CW.seq (fun K29 hK29 hE29 => ?_)
          refine CW.region ?_
          refine LR.v (Y.fieldAddr vw.pt rfl Tryz.runUnderlying149 rfl rfl Tryz.sizeOf4 (by decide) rfl) (Wd.u rfl) rfl rfl ?_
          refine LR.v (Y.load1 vw.pt rfl Tryz.isAgg4 rfl) (Wd.u rfl) rfl rfl ?_
          refine LR.nil ?_
          refine hK29 _ _ ?_
          refine CW.cond rfl (fun c37 => ?_) (fun c37 => ?_)
          ·
            refine CW.region ?_
            refine LR.v (Y.move rfl rfl) (Wd.u rfl) rfl rfl ?_
            refine LR.v (Y.move rfl rfl) (Wd.u rfl) rfl rfl ?_
            refine LR.v (Y.addi rfl rfl rfl (by omega)) (Wd.u rfl) rfl rfl ?_
            refine LR.v (Y.assign rfl rfl) (Wd.u rfl) rfl rfl ?_
            refine LR.nil ?_
            refine QN.sub (hK28 ((D1.wasL p).length + x.1.d.length) _ ?_) ⟨rfl, rfl, rfl, rfl, (iv (by omega)), (iv (by omega)), (iv (by omega)), trivial⟩
            exact ⟨by rw [on_len, if_pos c37], by first | (rw [hwas]; omega) | (rw [hwas]; simp), hcm28⟩
          ·
            refine CW.skip ?_
            refine QN.sub (hK28 x.1.d.length _ ?_) ⟨rfl, rfl, rfl, rfl, (iv (by omega)), (iv (by omega)), (iv (by omega)), trivial⟩
            exact ⟨by rw [on_len, if_neg (by simpa using c37)]; omega, by first | (rw [hwas]; omega) | (rw [hwas]; simp), hcm28⟩
        ·
          intro sz Hcutc37 hIcutc37
          obtain ⟨hsz, hwl, hlmcutc37⟩ := hIcutc37
          replace hf := hf.nw hlmcutc37
          replace mx := mx.nw hlmcutc37
          replace hd := hd.nw hlmcutc37
          replace vw := vw.nw hlmcutc37
          replace hm0 := hm0.trN hlmcutc37
          have hz16 := hlmcutc37.size
          have hus := hB1.us
          have hszl : sz ≤ 274877906945 + 274877906944 := by rw [hsz, on_len]; split <;> omega
          refine CW.seq (fun K30 hK30 hE30 => ?_)
          refine CW.block (fun K31 hK31 hX31 hE31 => ?_)
          refine CW.seq (fun K32 hK32 hE32 => ?_)
          refine CW.region ?_
          refine LR.v (Y.move rfl rfl) (Wd.u rfl) rfl rfl ?_
          refine LR.v (Y.move rfl rfl) (Wd.u rfl) rfl rfl ?_
          refine LR.v (Y.nilCheck rfl rfl) (Wd.u rfl) rfl rfl ?_
          refine LR.v (Y.fieldAddr hf.vb.pt rfl Tryz.runUnderlying73 rfl rfl Tryz.sizeOf3 (by decide) rfl) (Wd.u rfl) rfl rfl ?_
          refine LR.v (Y.load1 (hf.vb.pt.drop 1) rfl Tryz.isAgg3 rfl) (Wd.u rfl) rfl rfl ?_
          refine LR.v (Y.gtr rfl rfl rfl) (Wd.u rfl) rfl rfl ?_
          refine LR.v (Y.assign rfl rfl) (Wd.u rfl) rfl rfl ?_
          refine LR.nil ?_
          refine hK32 _ _ ?_
          refine CW.condp rfl (fun c41 => ?_) (fun c41 => ?_)
          ·
            refine CW.seq (fun K33 hK33 hE33 => ?_)
            refine CW.region ?_
            refine LR.v (Y.assign rfl rfl) (Wd.u rfl) rfl rfl ?_
            refine LR.nil ?_
            refine hK33 _ _ ?_
            refine CW.ret (hE31 .ret nofun (by simp) _ _ (hE30 .ret nofun _ _ (hret .ret (.inr rfl) _ _ _ (res1 rfl rfl) ?_)))
            have hE : D1.layE p x.1 = 5 := layE_5 hnm (by omega)
            exact ⟨_, _, by rw [hlay, hE]; rfl, by rw [hlay]; simp only [hE]; exact hf, nx_hm0_hf, hm0⟩
          ·
            refine CW.seq (fun K34 hK34 hE34 => ?_)
            refine CW.region_any (fun Hq => Nw Hcutc37 Hq) [] rfl ?_
            have hqs := Nw.refl Hcutc37
            refine LH.take 0 (by kernel_rfl) rfl (by kernel_rfl) (by kernel_rfl) (by kernel_rfl) (fun Hq hq => Y.move rfl rfl) (Wd.u rfl) rfl rfl hqs ?_
            refine LH.take 2 (by kernel_rfl) rfl (by kernel_rfl) (by kernel_rfl) (by kernel_rfl) (fun Hq hq => Y.move rfl rfl) (Wd.u rfl) rfl rfl hqs ?_
            refine LH.take 4 (by kernel_rfl) rfl (by kernel_rfl) (by kernel_rfl) (by kernel_rfl) (fun Hq hq => Y.move rfl rfl) (Wd.u rfl) rfl rfl hqs ?_
            refine LH.take 6 (by kernel_rfl) rfl (by kernel_rfl) (by kernel_rfl) (by kernel_rfl) (fun Hq hq => Y.move rfl rfl) (Wd.u rfl) rfl rfl hqs ?_
            refine LH.take 7 (by kernel_rfl) rfl (by kernel_rfl) (by kernel_rfl) (by kernel_rfl) (fun Hq hq => Y.nilCheck rfl rfl) (Wd.u rfl) rfl rfl hqs ?_
            refine LH.take 8 (by kernel_rfl) rfl (by kernel_rfl) (by kernel_rfl) (by kernel_rfl) (fun Hq hq => Y.fieldAddr (hf.vb.pt.nw hq) rfl Tryz.runUnderlying73 rfl rfl Tryz.sizeOf3 (by decide) rfl) (Wd.u rfl) rfl rfl hqs ?_
            refine LH.take 9 (by kernel_rfl) rfl (by kernel_rfl) (by kernel_rfl) (by kernel_rfl) (fun Hq hq => Y.load1 ((hf.vb.pt.drop 0).nw hq) rfl Tryz.isAgg3 rfl) (Wd.u rfl) rfl rfl hqs ?_
            refine LH.one (i := 1) (by kernel_rfl) ?_
            -- call (*selvage/simfs.FS).Used
            refine LO.call rfl rfl Tryz.call113 rfl (Wd.u rfl) rfl rfl (used_ct _ _ b D1 w0 _ hf hB1.an (by omega)) (fun v50 H50 r50 => ?_)
            obtain ⟨rfl, hs50⟩ := r50
            replace hf := hf.nw hs50
            replace mx := mx.nw hs50
            replace hd := hd.nw hs50
            replace vw := vw.nw hs50
            replace hm0 := hm0.trN hs50
            have hz17 := hs50.size
            have hq50 := hqs.tr hs50
            refine ⟨.inr hq50, LH.narrow (SH2 := fun Hq => Nw H50 Hq) (fun Hq hq => hq50.tr hq) ?_⟩
            have hqn50 := Nw.refl H50
            refine LH.take 3 (by kernel_rfl) rfl (by kernel_rfl) (by kernel_rfl) (by kernel_rfl) (fun Hq hq => Y.subi rfl rfl rfl (by omega)) (Wd.u rfl) rfl rfl hqn50 ?_
            refine LH.take 5 (by kernel_rfl) rfl (by kernel_rfl) (by kernel_rfl) (by kernel_rfl) (fun Hq hq => Y.addi rfl rfl rfl (by omega)) (Wd.u rfl) rfl rfl hqn50 ?_
            refine LH.take 10 (by kernel_rfl) rfl (by kernel_rfl) (by kernel_rfl) (by kernel_rfl) (fun Hq hq => Y.gtr rfl rfl rfl) (Wd.u rfl) rfl rfl hqn50 ?_
            refine LH.take 11 (by kernel_rfl) rfl (by kernel_rfl) (by kernel_rfl) (by kernel_rfl) (fun Hq hq => Y.assign rfl rfl) (Wd.u rfl) rfl rfl hqn50 ?_
            refine LH.done (by kernel_rfl) ?_
            have hqe := hqn50
            refine hK34 _ _ ?_
            refine CW.condp rfl (fun c48 => ?_) (fun c48 => ?_)
            ·
              refine CW.seq (fun K35 hK35 hE35 => ?_)
              refine CW.region ?_
              refine LR.v (Y.assign rfl rfl) (Wd.u rfl) rfl rfl ?_
              refine LR.nil ?_
              refine hK35 _ _ ?_
              refine CW.ret (hE31 .ret nofun (by simp) _ _ (hE30 .ret nofun _ _ (hret .ret (.inr rfl) _ _ _ (res1 rfl rfl) ?_)))
              have hE : D1.layE p x.1 = 12 := layE_12 hnm (by omega) (by omega)
              exact ⟨_, _, by rw [hlay, hE]; rfl, by rw [hlay]; simp only [hE]; exact hf, nx_hm0_hf, hm0⟩
            ·
              refine CW.skip ?_
              refine hK31 _ _ ?_
              refine hK30 _ _ ?_
              refine CW.seq (fun K36 hK36 hE36 => ?_)
              refine CW.seq (fun K37 hK37 hE37 => ?_)
              refine CW.region ?_
              refine LR.v (Y.move rfl rfl) (Wd.u rfl) rfl rfl ?_
              refine LR.v (Y.eql rfl rfl rfl) (Wd.u rfl) rfl rfl ?_
              refine LR.nil ?_
              refine hK37 _ _ ?_
              refine CW.condp rfl (fun c61 => ?_) (fun c61 => ?_)
              ·
                exfalso; omega
              ·
                refine CW.skip ?_
                refine hK36 _ _ ?_
                refine CW.seq (fun K38 hK38 hE38 => ?_)
                refine CW.region ?_
                refine LR.v (Y.fieldAddr vw.pt rfl Tryz.runUnderlying149 rfl rfl Tryz.sizeOf34 (by decide) rfl) (Wd.u rfl) rfl rfl ?_
                refine LR.v (Y.load1 (vw.pt.drop 1) rfl Tryz.isAgg34 rfl) (Wd.u rfl) rfl rfl ?_
                -- call slices.Clone[[]byte,byte]
                refine LR.call rfl Tryz.call64 rfl (Wd.u rfl) rfl rfl (bclone_ct _ x.1.d w0 _ hd.any (by omega)) (fun v71 H71 r71 => ?_)
                obtain ⟨s71, k71, rfl, ow71, hk71, hs71⟩ := r71
                have dj88 : DL k71 K := DL.app2 (DL.zK) hf.bk hk71
                have df89 := DF.app (DF.z) (bf_mx.mono hm0.size) hk71
                have df90 := DF.app (DF.z) (bf_hd.mono hm0.size) hk71
                have dj91 : Dj (H0.size + 1) k71 := Dj.app (Dj.z) vw.lt hk71
                have nx92 : Nx 0 H0.size k71 := Nx.tr (Nx.refl 0 _) hk71 hm0.size
                replace hf := hf.nw hs71
                replace mx := mx.nw hs71
                replace hd := hd.nw hs71
                replace vw := vw.nw hs71
                replace hm0 := hm0.trN hs71
                have hz18 := hs71.size
                have hle_ow71 := ow71.le
                refine LR.v (Y.fieldAddr vw.pt rfl Tryz.runUnderlying149 rfl rfl Tryz.sizeOf34 (by decide) rfl) (Wd.u rfl) rfl rfl ?_
                refine LR.s (S.var1 vw 1 ([.bool x.1.b, s71.v]) rfl rfl rfl (rfl) Tryz.sizeOf34 (by simp) (rfl)) (Wd.u rfl) rfl (fun H19_4 r19_4 => ?_)
                obtain ⟨vw, hs19_4⟩ := r19_4
                replace hs19_4 := hs19_4.md1
                replace hf := hf.upL hs19_4 (DKL.cons dj1 DKL.nil)
                replace mx := mx.upL hs19_4 (DFL.cons df2 DFL.nil)
                replace hd := hd.upL hs19_4 (DFL.cons df3 DFL.nil)
                replace ow71 := ow71.upL hs19_4 (DL.cons dj91.symm DL.nil)
                replace hm0 := hm0.trL hs19_4 (MIL.cons (MI.app MI.z (nx4) (Nat.le_refl _)) MIL.nil)
                have hz19 := hs19_4.size
                refine LR.nil ?_
                refine hK38 _ _ ?_
                refine CW.seq (fun K39 hK39 hE39 => ?_)
                obtain ⟨nvB, svB, wvB, kwB, lwB, hfiB⟩ := hf.fil i hil
                have hop : Mo (Ms [(bi + 1)]) H19_4 H19_4 := Mo.refl _ _
                have km93 : KM K (bi + 1) := (hf.kmf hfiB hbi)
                have vf2 := hfiB.atb hbi
                have hlt_vf2 := vf2.lt
                have df94 := DFL.at (dmx) km93
                have df95 := DFL.at (dfd) km93
                have dj96 : Dj (H0.size + 1) (bi + 1) := DL.at (dj1) km93
                have dj97 : Dj k71 (bi + 1) := DL.at (dj88) km93
                have nx98 : MI K H0.size (bi + 1) := MIL.at (MIL.ofK (nx_hm0_hf) (by intro k hk; simp [hk])) km93
                have nx99 := Nx.refl (bi + 1) H19_4.size
                refine CW.region_any (fun Hq => Nw H19_4 Hq) [11, 12, 13, 14] rfl ?_
                have hq20 : Nw H19_4 H19_4 := Mo.refl _ _
                refine LH.take 0 (by kernel_rfl) rfl (by kernel_rfl) (by kernel_rfl) (by kernel_rfl) (fun Hq hq => Y.cast (v2 := ptr bi) (Y.move rfl rfl) (hbv)) (Wd.u rfl) rfl rfl hq20 ?_
                refine LH.take 1 (by kernel_rfl) rfl (by kernel_rfl) (by kernel_rfl) (by kernel_rfl) (fun Hq hq => Y.loadN (vw.pt.nw hq) rfl Tryz.isAgg149 Tryz.sizeOf149 (rfl) rfl) (Wd.u rfl) rfl rfl hq20 ?_
                refine LH.take 2 (by kernel_rfl) rfl (by kernel_rfl) (by kernel_rfl) (by kernel_rfl) (fun Hq hq => Y.cast (v2 := ptr bi) (Y.move rfl rfl) (hbv)) (Wd.u rfl) rfl rfl hq20 ?_
                refine LH.take 3 (by kernel_rfl) rfl (by kernel_rfl) (by kernel_rfl) (by kernel_rfl) (fun Hq hq => Y.nilCheck rfl rfl) (Wd.u rfl) rfl rfl hq20 ?_
                refine LH.take 4 (by kernel_rfl) rfl (by kernel_rfl) (by kernel_rfl) (by kernel_rfl) (fun Hq hq => Y.fieldAddr (vf2.pt.nw hq) rfl Tryz.runUnderlying112 rfl rfl Tryz.sizeOf109 (by decide) rfl) (Wd.u rfl) rfl rfl hq20 ?_
                refine LH.take 5 (by kernel_rfl) rfl (by kernel_rfl) (by kernel_rfl) (by kernel_rfl) (fun Hq hq => Y.fieldAddr (vf2.pt.nw hq) rfl Tryz.runUnderlying109 rfl rfl Tryz.sizeOf34 (by decide) rfl) (Wd.u rfl) rfl rfl hq20 ?_
                refine LH.take 6 (by kernel_rfl) rfl (by kernel_rfl) (by kernel_rfl) (by kernel_rfl) (fun Hq hq => Y.load1 (vf2.pt.nw hq) rfl Tryz.isAgg34 rfl) (Wd.u rfl) rfl rfl hq20 ?_
                refine LH.take 7 (by kernel_rfl) rfl (by kernel_rfl) (by kernel_rfl) (by kernel_rfl) (fun Hq hq => Y.fieldAddr (vw.pt.nw hq) rfl Tryz.runUnderlying149 rfl rfl Tryz.sizeOf34 (by decide) rfl) (Wd.u rfl) rfl rfl hq20 ?_
                refine LH.take 8 (by kernel_rfl) rfl (by kernel_rfl) (by kernel_rfl) (by kernel_rfl) (fun Hq hq => Y.load1 ((vw.pt.drop 1).nw hq) rfl Tryz.isAgg34 rfl) (Wd.u rfl) rfl rfl hq20 ?_
                refine LH.take 9 (by kernel_rfl) rfl (by kernel_rfl) (by kernel_rfl) (by kernel_rfl) (fun Hq hq => Y.len (ow71.rd.nw hq) rfl Tryz.runUnderlying34 rfl) (Wd.u rfl) rfl rfl hq20 ?_
                refine LH.one (i := 10) (by kernel_rfl) ?_
                -- call (selvage/simfs.write).on
                refine LO.call rfl rfl Tryz.call84 rfl (Wd.u rfl) rfl rfl (on_ct (x.1, s71) nvB _ x.1.d.length w0 _ ow71.rd.any hfiB.hn.any (Nat.le_refl _) (by rw [hnow2]; omega)) (fun v83 H83 r83 => ?_)
                obtain ⟨s83, k83, rfl, ow83, hk83, hs83⟩ := r83
                have df100 := DF.app (DF.z) (bf_mx.mono hm0.size) hk83
                have df101 := DF.app (DF.z) (bf_hd.mono hm0.size) hk83
                have dj102 : Dj (H0.size + 1) k83 := Dj.app (Dj.z) vw.lt hk83
                have dj103 : Dj k71 k83 := Dj.app (Dj.z) ow71.le hk83
                have dj104 : Dj (bi + 1) k83 := Dj.app (Dj.z) vf2.lt hk83
                have nx105 : Nx 0 H0.size k83 := Nx.tr (Nx.refl 0 _) hk83 hm0.size
                have nx106 : Nx 0 H19_4.size k83 := Nx.tr (Nx.refl 0 _) hk83 hop.size
                have nx107 : Nx 0 H19_4.size k83 := Nx.tr (Nx.refl 0 _) hk83 hq20.size
                replace mx := mx.nw hs83
                replace hd := hd.nw hs83
                replace vw := vw.nw hs83
                replace ow71 := ow71.nw hs83
                replace vf2 := vf2.nw hs83
                replace hm0 := hm0.trN hs83
                replace hop := hop.trN hs83
                replace hq20 := hq20.tr hs83
                have hz20 := hs83.size
                have hle_ow83 := ow83.le
                refine ⟨.inr hq20, LH.narrow (SH2 := fun Hq => Mo (Ms [k83]) H83 Hq) (fun Hq hq => (Mo.trL (ks := []) (hq20.mdn []) hq (MIL.cons (MI.app MI.z (nx107) (Nat.le_refl _)) MIL.nil)).nil) ?_⟩
                have hq20 : Mo (Ms [k83]) H83 H83 := Mo.refl _ _
                have nx108 := Nx.refl k83 H83.size
                refine LH.one (i := 11) (by kernel_rfl) ?_
                refine LO.v rfl (Y.nilCheck rfl rfl) (Wd.u rfl) rfl rfl (.inl rfl) ?_
                refine LH.one (i := 12) (by kernel_rfl) ?_
                refine LO.v rfl (Y.fieldAddr vf2.pt rfl Tryz.runUnderlying112 rfl rfl Tryz.sizeOf109 (by decide) rfl) (Wd.u rfl) rfl rfl (.inl rfl) ?_
                refine LH.one (i := 13) (by kernel_rfl) ?_
                refine LO.v rfl (Y.fieldAddr vf2.pt rfl Tryz.runUnderlying109 rfl rfl Tryz.sizeOf34 (by decide) rfl) (Wd.u rfl) rfl rfl (.inl rfl) ?_
                refine LH.one (i := 14) (by kernel_rfl) ?_
                refine LO.s rfl (S.var1 vf2 0 ([s83.v, svB.v, wvB.v]) rfl rfl rfl (rfl) Tryz.sizeOf34 (by simp) (rfl)) (Wd.u rfl) rfl (fun H20_14 r20_14 => ?_)
                obtain ⟨vf2, hs20_14⟩ := r20_14
                replace hs20_14 := hs20_14.md1
                replace mx := mx.upL hs20_14 (DFL.cons df94 DFL.nil)
                replace hd := hd.upL hs20_14 (DFL.cons df95 DFL.nil)
                replace vw := vw.upL hs20_14 (DL.cons dj96 DL.nil)
                replace ow71 := ow71.upL hs20_14 (DL.cons dj97 DL.nil)
                replace ow83 := ow83.upL hs20_14 (DL.cons dj104.symm DL.nil)
                replace hm0 := hm0.trL hs20_14 (MIL.cons (nx98) MIL.nil)
                replace hop := hop.trL hs20_14 (MIL.cons (MI.app (MI.root (by simp)) (nx99) (Nat.le_refl _)) MIL.nil)
                -- LOST hq20
                have hz21 := hs20_14.size
                refine ⟨.inl rfl, ?_⟩
                refine LH.done (by kernel_rfl) ?_
                have dj109 : DL (H0.size + 1) (k83 :: K) := (DL.cons (dj102) (dj1))
                have dj110 : DL k71 (k83 :: K) := (DL.cons (dj103) (dj88))
                have df111 : DFL _ (k83 :: K) := (DFL.cons (df100) (dmx))
                have df112 : DFL _ (k83 :: K) := (DFL.cons (df101) (dfd))
                have nx113 : NxK K H0.size (k83 :: K) := (NxK.cons (nx105) (nx_hm0_hf))
                replace hf := hf.fnow hil hfiB hbi hop vf2 ow83 (DL.nxK hf.bk (nx106))
                have hbk_hf := hf.bk
                refine hK39 _ _ ?_
                refine CW.seq (fun K40 hK40 hE40 => ?_)
                have hil2 := hil
                rw [← fl_put] at hil2
                obtain ⟨nvC, svC, wvC, kwC, lwC, hfiC⟩ := hf.fil i hil2
                have hlw : lwC.length ≤ 274877906945 := by have h9 := congrArg List.length hfiC.lw; rw [List.length_map, fget_put hil] at h9; rw [h9]; exact hwi
                have hop : Mo (Ms [(bi + 1), kwC]) H20_14 H20_14 := Mo.refl _ _
                have km114 : KM (k83 :: K) (bi + 1) := (hf.kmf hfiC hbi)
                have vf2 := hfiC.atb hbi
                have hlt_vf2 := vf2.lt
                have df115 := DFL.at (df111) km114
                have df116 := DFL.at (df112) km114
                have dj117 : Dj (H0.size + 1) (bi + 1) := DL.at (dj109) km114
                have dj118 : Dj k71 (bi + 1) := DL.at (dj110) km114
                have nx119 : MI K H0.size (bi + 1) := MIL.at (MIL.ofK (nx113) (by intro k hk; simp [hk])) km114
                have nx120 := Nx.refl (bi + 1) H20_14.size
                have km121 : KM (k83 :: K) kwC := (hf.km hfiC.rk (by simp))
                have hw := hfiC.hw
                have hle_hw := hw.le
                have df122 := DFL.at (df111) km121
                have df123 := DFL.at (df112) km121
                have dj124 : Dj (H0.size + 1) kwC := DL.at (dj109) km121
                have dj125 : Dj k71 kwC := DL.at (dj110) km121
                have nx126 : MI K H0.size kwC := MIL.at (MIL.ofK (nx113) (by intro k hk; simp [hk])) km121
                have nx127 := Nx.refl kwC H20_14.size
                have dj128 : Dj (bi + 1) kwC := hfiC.ne hbi
                refine CW.region_any (fun Hq => Mo (Ms [kwC]) H20_14 Hq) [8, 9, 10] rfl ?_
                have hq21 : Mo (Ms [kwC]) H20_14 H20_14 := Mo.refl _ _
                have nx129 := Nx.refl kwC H20_14.size
                refine LH.take 0 (by kernel_rfl) rfl (by kernel_rfl) (by kernel_rfl) (by kernel_rfl) (fun Hq hq => Y.cast (v2 := ptr bi) (Y.move rfl rfl) (hbv)) (Wd.u rfl) rfl rfl hq21 ?_
                refine LH.take 1 (by kernel_rfl) rfl (by kernel_rfl) (by kernel_rfl) (by kernel_rfl) (fun Hq hq => Y.cast (v2 := ptr bi) (Y.move rfl rfl) (hbv)) (Wd.u rfl) rfl rfl hq21 ?_
                refine LH.take 2 (by kernel_rfl) rfl (by kernel_rfl) (by kernel_rfl) (by kernel_rfl) (fun Hq hq => Y.nilCheck rfl rfl) (Wd.u rfl) rfl rfl hq21 ?_
                refine LH.take 3 (by kernel_rfl) rfl (by kernel_rfl) (by kernel_rfl) (by kernel_rfl) (fun Hq hq => Y.fieldAddr (vf2.upL hq (DL.cons dj128 DL.nil)).pt rfl Tryz.runUnderlying112 rfl rfl Tryz.sizeOf110 (by decide) rfl) (Wd.u rfl) rfl rfl hq21 ?_
                refine LH.take 4 (by kernel_rfl) rfl (by kernel_rfl) (by kernel_rfl) (by kernel_rfl) (fun Hq hq => Y.load1 ((vf2.upL hq (DL.cons dj128 DL.nil)).pt.drop 2) rfl Tryz.isAgg110 rfl) (Wd.u rfl) rfl rfl hq21 ?_
                refine LH.take 5 (by kernel_rfl) rfl (by kernel_rfl) (by kernel_rfl) (by kernel_rfl) (fun Hq hq => Y.loadN (vw.upL hq (DL.cons dj124 DL.nil)).pt rfl Tryz.isAgg149 Tryz.sizeOf149 (rfl) rfl) (Wd.u rfl) rfl rfl hq21 ?_
                refine LH.one (i := 6) (by kernel_rfl) ?_
                refine LO.z rfl (Z.litw _ ([(x.1, s71)]) rfl inf110 rfl rfl rfl (by decide) (by decide) fW_len fW_one (rfl)) (Wd.u rfl) rfl rfl (fun v93 H93 r93 => ?_)
                obtain ⟨ow93, hs93, ob93, hH93⟩ := r93
                have hzs93 : H93.size = H20_14.size + 1 := by rw [hH93]; simp
                have df130 := (DF.new (bf_mx.mono hm0.size) : DF _ (H20_14.size + 1))
                have df131 := (DF.new (bf_hd.mono hm0.size) : DF _ (H20_14.size + 1))
                have dj132 : Dj (H0.size + 1) (H20_14.size + 1) := Dj.new vw.lt
                have dj133 : Dj k71 (H20_14.size + 1) := Dj.new ow71.le
                have dj134 : Dj (bi + 1) (H20_14.size + 1) := Dj.new vf2.lt
                have dj135 : Dj kwC (H20_14.size + 1) := Dj.new hw.le
                have nx136 : Nx 0 H0.size (H20_14.size + 1) := Nx.new hm0.size
                have nx137 : Nx 0 H20_14.size (H20_14.size + 1) := Nx.new hop.size
                have nx138 : Nx 0 H20_14.size (H20_14.size + 1) := Nx.new hq21.size
                replace mx := mx.nw hs93
                replace hd := hd.nw hs93
                replace vw := vw.nw hs93
                replace ow71 := ow71.nw hs93
                replace vf2 := vf2.nw hs93
                replace hw := hw.nw hs93
                replace hm0 := hm0.trN hs93
                replace hop := hop.trN hs93
                replace hq21 := hq21.trN hs93
                have hz22 := hs93.size
                refine ⟨.inr hq21, LH.narrow (SH2 := fun Hq => Mo (Ms [kwC, (H20_14.size + 1)]) H93 Hq) (fun Hq hq => hq21.trL hq (MIL.cons (MI.app (MI.root (by simp)) (nx129) (Nat.le_refl _)) (MIL.cons (MI.app MI.z (nx138) (Nat.le_refl _)) MIL.nil))) ?_⟩
                have hq21 : Mo (Ms [kwC, (H20_14.size + 1)]) H93 H93 := Mo.refl _ _
                have nx139 := Nx.refl kwC H93.size
                have nx140 := Nx.refl (H20_14.size + 1) H93.size
                refine LH.one (i := 7) (by kernel_rfl) ?_
                refine LO.z rfl (Z.apnd hw ow93.rd rfl inf110 rfl rfl (by first | omega | (simp; omega)) (by first | omega | (simp; omega))) (Wd.u rfl) rfl rfl (fun v94 H94 r94 => ?_)
                obtain ⟨kw2, hw, hk94, hs94⟩ := r94
                replace hk94 : Nx kwC H93.size kw2 := hk94
                replace hs94 := hs94.md
                have df141 := DF.app (df122) (bf_mx.mono hm0.size) hk94
                have df142 := DF.app (df123) (bf_hd.mono hm0.size) hk94
                have dj143 : Dj (H0.size + 1) kw2 := Dj.app (dj124) vw.lt hk94
                have dj144 : Dj k71 kw2 := Dj.app (dj125) ow71.le hk94
                have dj145 : Dj (bi + 1) kw2 := Dj.app (dj128) vf2.lt hk94
                have dj146 : Dj (H20_14.size + 1) kw2 := Dj.app (dj135.symm) ow93.le hk94
                have nx147 : MI K H0.size kw2 := MI.app (nx126) hk94 hm0.size
                have nx148 : Nx kwC H20_14.size kw2 := Nx.tr (nx127) hk94 hop.size
                have nx149 : Nx kwC H93.size kw2 := Nx.tr (nx139) hk94 hq21.size
                replace mx := mx.upL hs94 (DFL.cons df122 DFL.nil)
                replace hd := hd.upL hs94 (DFL.cons df123 DFL.nil)
                replace vw := vw.upL hs94 (DL.cons dj124 DL.nil)
                replace ow71 := ow71.upL hs94 (DL.cons dj125 DL.nil)
                replace vf2 := vf2.upL hs94 (DL.cons dj128 DL.nil)
                replace ow93 := ow93.upL hs94 (DL.cons dj135.symm DL.nil)
                replace hm0 := hm0.trL hs94 (MIL.cons (nx126) MIL.nil)
                replace hop := hop.trL hs94 (MIL.cons (MI.app (MI.root (by simp)) (nx127) (Nat.le_refl _)) MIL.nil)
                replace hq21 := hq21.trL hs94 (MIL.cons (MI.app (MI.root (by simp)) (nx139) (Nat.le_refl _)) MIL.nil)
                have hz23 := hs94.size
                have hle_hw := hw.le
                refine ⟨.inr hq21, LH.narrow (SH2 := fun Hq => Mo (Ms [kw2, (H20_14.size + 1)]) H94 Hq) (fun Hq hq => hq21.trL hq (MIL.cons (MI.app (MI.root (by simp)) (nx149) (Nat.le_refl _)) (MIL.cons (MI.app (MI.root (by simp)) (nx140) (Nat.le_refl _)) MIL.nil))) ?_⟩
                have hq21 : Mo (Ms [kw2, (H20_14.size + 1)]) H94 H94 := Mo.refl _ _
                have nx150 := Nx.refl kw2 H94.size
                have nx151 := Nx.refl (H20_14.size + 1) H94.size
                refine LH.one (i := 8) (by kernel_rfl) ?_
                refine LO.v rfl (Y.nilCheck rfl rfl) (Wd.u rfl) rfl rfl (.inl rfl) ?_
                refine LH.one (i := 9) (by kernel_rfl) ?_
                refine LO.v rfl (Y.fieldAddr vf2.pt rfl Tryz.runUnderlying112 rfl rfl Tryz.sizeOf110 (by decide) rfl) (Wd.u rfl) rfl rfl (.inl rfl) ?_
                refine LH.one (i := 10) (by kernel_rfl) ?_
                refine LO.s rfl (S.var1 vf2 2 ([nvC.v, svC.v, v94]) rfl rfl rfl (hw.rd.oneCell) Tryz.sizeOf110 (by simp) (rfl)) (Wd.u rfl) rfl (fun H21_10 r21_10 => ?_)
                obtain ⟨vf2, hs21_10⟩ := r21_10
                replace hs21_10 := hs21_10.md1
                replace mx := mx.upL hs21_10 (DFL.cons df115 DFL.nil)
                replace hd := hd.upL hs21_10 (DFL.cons df116 DFL.nil)
                replace vw := vw.upL hs21_10 (DL.cons dj117 DL.nil)
                replace ow71 := ow71.upL hs21_10 (DL.cons dj118 DL.nil)
                replace hw := hw.upL hs21_10 (DL.cons dj145.symm DL.nil)
                replace ow93 := ow93.upL hs21_10 (DL.cons dj134.symm DL.nil)
                replace hm0 := hm0.trL hs21_10 (MIL.cons (nx119) MIL.nil)
                replace hop := hop.trL hs21_10 (MIL.cons (MI.app (MI.root (by simp)) (nx120) (Nat.le_refl _)) MIL.nil)
                -- LOST hq21
                have hz24 := hs21_10.size
                refine ⟨.inl rfl, ?_⟩
                refine LH.done (by kernel_rfl) ?_
                obtain ⟨wv2, rfl⟩ : ∃ s : SV, v94 = s.v := ⟨toSV v94, hw.sv.symm⟩
                have dj152 : DL (H0.size + 1) (k71 :: (kw2 :: (k83 :: K))) := (DL.cons (dj91) ((DL.cons (dj143) (dj109))))
                have df153 : DFL _ (k71 :: (kw2 :: (k83 :: K))) := (DFL.cons (df89) ((DFL.cons (df141) (df111))))
                have df154 : DFL _ (k71 :: (kw2 :: (k83 :: K))) := (DFL.cons (df90) ((DFL.cons (df142) (df112))))
                have nx155 : NxK K H0.size (k71 :: (kw2 :: (k83 :: K))) := (NxK.cons (nx92) ((NxK.app (nx113) (km121) (nx148) (by omega))))
                replace hf := hf.fwr hil2 hfiC hbi hop vf2 hw (nx148) ow71 (DL.cons (dj144) (dj110))
                have hbk_hf := hf.bk
                refine hK40 _ _ ?_
                refine CW.seq (fun K41 hK41 hE41 => ?_)
                refine CW.region ?_
                refine LR.v (Y.assign rfl rfl) (Wd.u rfl) rfl rfl ?_
                refine LR.nil ?_
                refine hK41 _ _ ?_
                refine CW.ret (hret .ret (.inr rfl) _ _ _ (res1 rfl rfl) ?_)
                have hE0 : D1.layE p x.1 = 0 := layE_0 hnm (by omega) (by omega)
                exact ⟨_, _, by rw [hlay, hE0]; rfl, by rw [hlay]; simp only [hE0, if_true]; first | (rw [← write_some hnow hil]; rw [← hwas] at hf; exact hf) | (rw [← write_none hnow]; subst hie; exact hf), nx155, hm0⟩

end Go.Proofs.YtdliddjkacbggaaGreatDoor.SimH
/-
  The disk: what is done to files and names.
-/
namespace Go.Proofs.YtdliddjkacbggaaGreatDoor.SimI
open Go.Proofs.YtdliddjkacbggaaGreatDoor.E Go.RowKit Go.Proofs.YtdliddjkacbggaaGreatDoor.SimA Go.Proofs.YtdliddjkacbggaaGreatDoor.SimB Go.Proofs.YtdliddjkacbggaaGreatDoor.SimC Go.Proofs.YtdliddjkacbggaaGreatDoor.SimD Go.Proofs.YtdliddjkacbggaaGreatDoor.SimE Go.Proofs.YtdliddjkacbggaaGreatDoor.SimF Go.Proofs.YtdliddjkacbggaaGreatDoor.SimG Go.Proofs.YtdliddjkacbggaaGreatDoor.SimH
set_option maxRecDepth 20000
set_option linter.unusedVariables false
set_option linter.unusedSimpArgs false
set_option linter.unusedSectionVars false

theorem sync_dead {D : Dk} {p : Pth} (h : D.begin.1 = false) : D.sync p = (11, D.begin.2) := by unfold Dk.sync; simp [h]
theorem sync_go {D : Dk} {p : Pth} (h : D.begin.1 = true) : D.sync p = (D.begin.2.look p, if D.begin.2.look p = 0 then D.begin.2.syncF ((mget D.begin.2.now p).getD 0) else D.begin.2) := by unfold Dk.sync; simp [h]
theorem ren_dead {D : Dk} {p q : Pth} (h : D.begin.1 = false) : D.rename p q = (11, D.begin.2) := by unfold Dk.rename; simp [h]
theorem ren_go {D : Dk} {p q : Pth} (h : D.begin.1 = true) : D.rename p q = (D.begin.2.renE p q, if D.begin.2.renE p q = 0 ∧ p ≠ q then D.begin.2.change ⟨p, q, some ((mget D.begin.2.now p).getD 0)⟩ else D.begin.2) := by unfold Dk.rename; simp [h]
theorem renE_7 {D : Dk} {p q : Pth} (h : nameB p = false ∨ nameB q = false) : D.renE p q = 7 := by unfold Dk.renE; rw [if_pos h]
theorem renE_13 {D : Dk} {p q : Pth} (h : nameB p = true) (h2 : nameB q = true) (h3 : dirP p ≠ dirP q) : D.renE p q = 13 := by unfold Dk.renE; rw [if_neg (by simp [h, h2]), if_pos h3]
theorem renE_l {D : Dk} {p q : Pth} (h : nameB p = true) (h2 : nameB q = true) (h3 : dirP p = dirP q) : D.renE p q = D.look p := by unfold Dk.renE; rw [if_neg (by simp [h, h2]), if_neg (by simpa using h3)]
theorem sd_dead {D : Dk} {p : Pth} (h : D.begin.1 = false) : D.syncDir p = (11, D.begin.2) := by unfold Dk.syncDir; simp [h]
theorem sd_go {D : Dk} {p : Pth} (h : D.begin.1 = true) : D.syncDir p = (dirE p, if dirE p = 0 then D.begin.2.stayD p else D.begin.2) := by unfold Dk.syncDir; simp [h]
theorem name_ne {p : Pth} (h : nameB p = true) : p ≠ [] := ((name_iff p).1 h).1
theorem mclone_ct {κ β : Type} {fk : κ → Value} {fv : β → Value} (mb : Nat) (m : List (κ × β)) (w0 : World) (H0 : Heap) (h : Mp H0 fk fv mb m) : Ct Tryz.prog w0 40 #[.map (some mb)] H0 (fun r H2 => ∃ b2 : Nat, r = .map (some b2) ∧ Mp H2 fk fv b2 m ∧ Nx 0 H0.size (b2 + 1) ∧ Nw H0 H2) := by
  intro w ha
  obtain ⟨r, es, clock, hv, h2, h3, h4, h5⟩ := h.mo.ex
  obtain rfl := h2
  have hb : w.heap[r]? = some (.map es clock) := by rw [ha.heap]; exact h3
  refine (AnyW.maps_Clone Tryz.mclone40 r es clock w hb).mono ?_
  rintro e w' ⟨rfl, rfl⟩
  refine ⟨_, H0.push (.map es clock), rfl, ha.alloc _, H0.size, by rw [ha.heap], ⟨⟨H0.size, es, clock, rfl, rfl, by simp, h4, h5⟩⟩, .inr (.inr (by omega)), Nw.pu _ _⟩

set_option maxHeartbeats 2000000 in
theorem write_ct (mx_ : Int) (K : List Nat) (g : Gh) (b : Nat) (D : Dk) (p : Pth) (sd : SV) (d : List UInt8) (F : Nat → Prop) (w0 : World) (H0 : Heap)
    (hf : PDk K g H0 b D) (mx : MX mx_ H0) (bf_mx : BF (fun b => b = 0) H0.size) (dmx : DFL (fun b => b = 0) K) (hd : Rd F H0 fB 1 sd.v d) (bf_hd : BF F H0.size) (dfd : DFL F K) (hl : p.length ≤ 4294967280) (hB : Bd 274877906944 D) (hdl : d.length ≤ 274877906944) :
    Ct Tryz.prog w0 45 #[ptr b, Str p, sd.v] H0 (fun r H2 => ∃ K2 : List Nat, ∃ g2 : Gh, r = .int .i64 ((D.lay p ⟨false, d⟩).1 : Int) ∧ (PDk K2 g2 H2 b (D.lay p ⟨false, d⟩).2) ∧ (NxK K H0.size K2) ∧ Mo (Ms K) H0 H2) := by
  refine Ct.enter (args := [ptr b, Str p, sd.v]) Tryz.func45 rfl rfl rfl ?_
  intro Q0 hret
  have hm0 : Mo (Ms K) H0 H0 := Mo.refl _ _
  have nx_hm0_hf := NxK.refl K H0.size
  have hbk_hf := hf.bk
  refine CW.seq (fun K1 hK1 hE1 => ?_)
  refine CW.region ?_
  refine LR.v (Y.assign rfl rfl) (Wd.u rfl) rfl rfl ?_
  refine LR.nil ?_
  refine hK1 _ _ ?_
  refine CW.seq (fun K2 hK2 hE2 => ?_)
  refine CW.region ?_
  refine LR.v (Y.move rfl rfl) (Wd.u rfl) rfl rfl ?_
  refine LR.v (Y.move rfl rfl) (Wd.u rfl) rfl rfl ?_
  refine LR.v (Y.move rfl rfl) (Wd.u rfl) rfl rfl ?_
  refine LR.v (Y.build (v := wV (⟨false, d⟩, sd)) rfl rfl (by intro w; kernel_rfl)) (Wd.u rfl) rfl rfl ?_
  -- call (*selvage/simfs.FS).lay
  refine LR.call rfl Tryz.call74 rfl (Wd.u rfl) rfl rfl (lay_ct mx_ K g b D p (⟨false, d⟩, sd) F w0 _ hf mx (bf_mx.mono (by omega)) dmx hd (bf_hd.mono (by omega)) dfd hl hB hdl) (fun v11 H11 r11 => ?_)
  have ql1 := hf.bk
  obtain ⟨K11, g11, rfl, hf, hkd11, hs11⟩ := r11
  have df2 := DFL.appK (dmx) (bf_mx.mono hm0.size) hkd11
  have df3 := DFL.appK (dfd) (bf_hd.mono hm0.size) hkd11
  have nx4 : NxK K H0.size K11 := NxK.tr (nx_hm0_hf) hkd11 hm0.size
  replace mx := mx.upL hs11 (dmx)
  replace hd := hd.upL hs11 (dfd)
  replace hm0 := hm0.trL hs11 (MIL.ofK (nx_hm0_hf) (by intro k hk; simp [hk]))
  have hz1 := hs11.size
  have hbk_hf := hf.bk
  refine LR.v (Y.assign rfl rfl) (Wd.u rfl) rfl rfl ?_
  refine LR.nil ?_
  refine hK2 _ _ ?_
  refine CW.ret (hret .ret (.inr rfl) _ _ _ (res1 rfl rfl) ?_)
  exact ⟨_, _, rfl, hf, nx4, hm0⟩

set_option maxHeartbeats 2000000 in
theorem append_ct (mx_ : Int) (K : List Nat) (g : Gh) (b : Nat) (D : Dk) (p : Pth) (sd : SV) (d : List UInt8) (F : Nat → Prop) (w0 : World) (H0 : Heap)
    (hf : PDk K g H0 b D) (mx : MX mx_ H0) (bf_mx : BF (fun b => b = 0) H0.size) (dmx : DFL (fun b => b = 0) K) (hd : Rd F H0 fB 1 sd.v d) (bf_hd : BF F H0.size) (dfd : DFL F K) (hl : p.length ≤ 4294967280) (hB : Bd 274877906944 D) (hdl : d.length ≤ 274877906944) :
    Ct Tryz.prog w0 33 #[ptr b, Str p, sd.v] H0 (fun r H2 => ∃ K2 : List Nat, ∃ g2 : Gh, r = .int .i64 ((D.lay p ⟨true, d⟩).1 : Int) ∧ (PDk K2 g2 H2 b (D.lay p ⟨true, d⟩).2) ∧ (NxK K H0.size K2) ∧ Mo (Ms K) H0 H2) := by
  refine Ct.enter (args := [ptr b, Str p, sd.v]) Tryz.func33 rfl rfl rfl ?_
  intro Q0 hret
  have hm0 : Mo (Ms K) H0 H0 := Mo.refl _ _
  have nx_hm0_hf := NxK.refl K H0.size
  have hbk_hf := hf.bk
  refine CW.seq (fun K1 hK1 hE1 => ?_)
  refine CW.region ?_
  refine LR.v (Y.assign rfl rfl) (Wd.u rfl) rfl rfl ?_
  refine LR.nil ?_
  refine hK1 _ _ ?_
  refine CW.seq (fun K2 hK2 hE2 => ?_)
  refine CW.region ?_
  refine LR.v (Y.move rfl rfl) (Wd.u rfl) rfl rfl ?_
  refine LR.v (Y.move rfl rfl) (Wd.u rfl) rfl rfl ?_
  refine LR.v (Y.move rfl rfl) (Wd.u rfl) rfl rfl ?_
  refine LR.v (Y.build (v := wV (⟨true, d⟩, sd)) rfl rfl (by intro w; kernel_rfl)) (Wd.u rfl) rfl rfl ?_
  -- call (*selvage/simfs.FS).lay
  refine LR.call rfl Tryz.call74 rfl (Wd.u rfl) rfl rfl (lay_ct mx_ K g b D p (⟨true, d⟩, sd) F w0 _ hf mx (bf_mx.mono (by omega)) dmx hd (bf_hd.mono (by omega)) dfd hl hB hdl) (fun v11 H11 r11 => ?_)
  have ql1 := hf.bk
  obtain ⟨K11, g11, rfl, hf, hkd11, hs11⟩ := r11
  have df2 := DFL.appK (dmx) (bf_mx.mono hm0.size) hkd11
  have df3 := DFL.appK (dfd) (bf_hd.mono hm0.size) hkd11
  have nx4 : NxK K H0.size K11 := NxK.tr (nx_hm0_hf) hkd11 hm0.size
  replace mx := mx.upL hs11 (dmx)
  replace hd := hd.upL hs11 (dfd)
  replace hm0 := hm0.trL hs11 (MIL.ofK (nx_hm0_hf) (by intro k hk; simp [hk]))
  have hz1 := hs11.size
  have hbk_hf := hf.bk
  refine LR.v (Y.assign rfl rfl) (Wd.u rfl) rfl rfl ?_
  refine LR.nil ?_
  refine hK2 _ _ ?_
  refine CW.ret (hret .ret (.inr rfl) _ _ _ (res1 rfl rfl) ?_)
  exact ⟨_, _, rfl, hf, nx4, hm0⟩

set_option maxHeartbeats 2000000 in
theorem sync_ct (mx_ : Int) (K : List Nat) (g : Gh) (b : Nat) (D : Dk) (p : Pth) (w0 : World) (H0 : Heap)
    (hf : PDk K g H0 b D) (mx : MX mx_ H0) (bf_mx : BF (fun b => b = 0) H0.size) (dmx : DFL (fun b => b = 0) K) (hl : p.length ≤ 4294967280) (hB : Bd 274877906944 D) :
    Ct Tryz.prog w0 30 #[ptr b, Str p] H0 (fun r H2 => ∃ K2 : List Nat, ∃ g2 : Gh, r = .int .i64 ((D.sync p).1 : Int) ∧ (PDk K2 g2 H2 b (D.sync p).2) ∧ (NxK K H0.size K2) ∧ Mo (Ms K) H0 H2) := by
  refine Ct.enter (args := [ptr b, Str p]) Tryz.func30 rfl rfl rfl ?_
  intro Q0 hret
  have hm0 : Mo (Ms K) H0 H0 := Mo.refl _ _
  have nx_hm0_hf := NxK.refl K H0.size
  have hbk_hf := hf.bk
  have hop0 := hB.op
  have hdm0 := hf.dml
  obtain ⟨D1, hD1⟩ : ∃ D1, D1 = D.begin.2 := ⟨_, rfl⟩
  have hB1 := hB.begin
  rw [← hD1] at hB1
  refine CW.seq (fun K1 hK1 hE1 => ?_)
  refine CW.region ?_
  refine LR.v (Y.assign rfl rfl) (Wd.u rfl) rfl rfl ?_
  refine LR.nil ?_
  refine hK1 _ _ ?_
  refine CW.seq (fun K2 hK2 hE2 => ?_)
  refine CW.seq (fun K3 hK3 hE3 => ?_)
  refine CW.region ?_
  refine LR.v (Y.move rfl rfl) (Wd.u rfl) rfl rfl ?_
  -- call (*selvage/simfs.FS).begin
  refine LR.call rfl Tryz.call73 rfl (Wd.u rfl) rfl rfl (begin_ct K g b D w0 _ hf (by omega)) (fun v8 H8 r8 => ?_)
  obtain ⟨g1, rfl, hf, hg1, hs8⟩ := r8
  replace mx := mx.upL hs8 (dmx)
  replace hm0 := hm0.trL hs8 (MIL.ofK (nx_hm0_hf) (by intro k hk; simp [hk]))
  have hz1 := hs8.size
  rw [← hD1] at hf
  refine LR.v (Y.not rfl rfl) (Wd.u rfl) rfl rfl ?_
  refine LR.nil ?_
  refine hK3 _ _ ?_
  refine CW.cond rfl (fun c9 => ?_) (fun c9 => ?_)
  ·
    refine CW.seq (fun K4 hK4 hE4 => ?_)
    refine CW.region ?_
    refine LR.v (Y.assign rfl rfl) (Wd.u rfl) rfl rfl ?_
    refine LR.nil ?_
    refine hK4 _ _ ?_
    refine CW.ret (hE2 .ret nofun _ _ (hret .ret (.inr rfl) _ _ _ (res1 rfl rfl) ?_))
    have hdd := sync_dead (p := p) (show D.begin.1 = false by simpa using c9)
    exact ⟨_, _, by rw [hdd]; rfl, by rw [hdd]; rw [hD1] at hf; exact hf, nx_hm0_hf, hm0⟩
  ·
    have hgo : D.begin.1 = true := by simpa using c9
    have hops := (begin_true hgo).1
    rw [← hD1] at hops
    have hlay := sync_go (p := p) hgo
    rw [← hD1] at hlay
    refine CW.skip ?_
    refine hK2 _ _ ?_
    refine CW.seq (fun K5 hK5 hE5 => ?_)
    refine CW.region ?_
    refine LR.v (Y.move rfl rfl) (Wd.u rfl) rfl rfl ?_
    refine LR.v (Y.move rfl rfl) (Wd.u rfl) rfl rfl ?_
    -- call (*selvage/simfs.FS).find
    refine LR.call rfl Tryz.call63 rfl (Wd.u rfl) rfl rfl (find_ct mx_ K g1 b D1 p w0 _ mx (bf_mx.mono (by omega)) hf hl) (fun v13 H13 r13 => ?_)
    obtain ⟨rfl, hs13⟩ := r13
    replace hf := hf.nw hs13
    replace mx := mx.nw hs13
    replace hm0 := hm0.trN hs13
    have hz2 := hs13.size
    refine LR.v (Y.move rfl rfl) (Wd.u rfl) rfl rfl ?_
    refine LR.v (Y.extract rfl rfl rfl) (Wd.u rfl) rfl rfl ?_
    refine LR.v (Y.extract rfl rfl rfl) (Wd.u rfl) rfl rfl ?_
    refine LR.v (Y.assign rfl rfl) (Wd.u rfl) rfl rfl ?_
    refine LR.v (Y.assign rfl rfl) (Wd.u rfl) rfl rfl ?_
    refine LR.nil ?_
    refine hK5 _ _ ?_
    refine CW.seq (fun K6 hK6 hE6 => ?_)
    refine CW.seq (fun K7 hK7 hE7 => ?_)
    refine CW.region ?_
    refine LR.v (Y.move rfl rfl) (Wd.u rfl) rfl rfl ?_
    refine LR.v (Y.eql rfl rfl rfl) (Wd.u rfl) rfl rfl ?_
    refine LR.nil ?_
    refine hK7 _ _ ?_
    refine CW.condp rfl (fun c17 => ?_) (fun c17 => ?_)
    ·
      have hlk : D1.look p = 0 := by omega
      obtain ⟨hnm, i, hnow⟩ := look_0 hlk
      have hil := hf.ids.1 p i hnow
      obtain ⟨bi, hbi, hbv⟩ : ∃ bi, g1.fb.getD i 0 = bi ∧ .pointer (fpt g1.fb (if D1.look p = 0 then mget D1.now p else none)) = ptr bi := ⟨_, rfl, by rw [if_pos hlk, hnow]; rfl⟩
      obtain ⟨nvB, svB, wvB, kwB, lwB, hfiB⟩ := hf.fil i hil
      have hop : Mo (Ms [(bi + 1)]) H13 H13 := Mo.refl _ _
      have km1 : KM K (bi + 1) := (hf.kmf hfiB hbi)
      have vf2 := hfiB.atb hbi
      have hlt_vf2 := vf2.lt
      have df2 := DFL.at (dmx) km1
      have nx3 : MI K H0.size (bi + 1) := MIL.at (MIL.ofK (nx_hm0_hf) (by intro k hk; simp [hk])) km1
      have nx4 := Nx.refl (bi + 1) H13.size
      refine CW.region ?_
      refine LR.v (Y.cast (v2 := ptr bi) (Y.move rfl rfl) (hbv)) (Wd.u rfl) rfl rfl ?_
      refine LR.v (Y.cast (v2 := ptr bi) (Y.move rfl rfl) (hbv)) (Wd.u rfl) rfl rfl ?_
      refine LR.v (Y.cast (v2 := ptr bi) (Y.move rfl rfl) (hbv)) (Wd.u rfl) rfl rfl ?_
      refine LR.v (Y.nilCheck rfl rfl) (Wd.u rfl) rfl rfl ?_
      refine LR.v (Y.fieldAddr vf2.pt rfl Tryz.runUnderlying112 rfl rfl Tryz.sizeOf109 (by decide) rfl) (Wd.u rfl) rfl rfl ?_
      refine LR.v (Y.fieldAddr vf2.pt rfl Tryz.runUnderlying109 rfl rfl Tryz.sizeOf34 (by decide) rfl) (Wd.u rfl) rfl rfl ?_
      refine LR.v (Y.load1 vf2.pt rfl Tryz.isAgg34 rfl) (Wd.u rfl) rfl rfl ?_
      refine LR.v (Y.nilCheck rfl rfl) (Wd.u rfl) rfl rfl ?_
      refine LR.v (Y.fieldAddr vf2.pt rfl Tryz.runUnderlying112 rfl rfl Tryz.sizeOf109 (by decide) rfl) (Wd.u rfl) rfl rfl ?_
      refine LR.v (Y.fieldAddr vf2.pt rfl Tryz.runUnderlying109 rfl rfl Tryz.sizeOf34 (by decide) rfl) (Wd.u rfl) rfl rfl ?_
      refine LR.s (S.var1 vf2 1 ([nvB.v, nvB.v, wvB.v]) rfl rfl rfl (rfl) Tryz.sizeOf34 (by simp) (rfl)) (Wd.u rfl) rfl (fun H5_10 r5_10 => ?_)
      obtain ⟨vf2, hs5_10⟩ := r5_10
      replace hs5_10 := hs5_10.md1
      replace mx := mx.upL hs5_10 (DFL.cons df2 DFL.nil)
      replace hm0 := hm0.trL hs5_10 (MIL.cons (nx3) MIL.nil)
      replace hop := hop.trL hs5_10 (MIL.cons (MI.app (MI.root (by simp)) (nx4) (Nat.le_refl _)) MIL.nil)
      have hz3 := hs5_10.size
      refine LR.v (Y.nilCheck rfl rfl) (Wd.u rfl) rfl rfl ?_
      refine LR.v (Y.fieldAddr vf2.pt rfl Tryz.runUnderlying112 rfl rfl Tryz.sizeOf110 (by decide) rfl) (Wd.u rfl) rfl rfl ?_
      refine LR.s (S.var1 vf2 2 ([nvB.v, nvB.v, .slice none 0 0]) rfl rfl rfl (rfl) Tryz.sizeOf110 (by simp) (rfl)) (Wd.u rfl) rfl (fun H5_13 r5_13 => ?_)
      obtain ⟨vf2, hs5_13⟩ := r5_13
      replace hs5_13 := hs5_13.md1
      replace mx := mx.upL hs5_13 (DFL.cons df2 DFL.nil)
      replace hm0 := hm0.trL hs5_13 (MIL.cons (nx3) MIL.nil)
      replace hop := hop.trL hs5_13 (MIL.cons (MI.app (MI.root (by simp)) (nx4) (Nat.le_refl _)) MIL.nil)
      have hz4 := hs5_13.size
      refine LR.nil ?_
      have df5 : DFL _ K := dmx
      have nx6 : NxK K H0.size K := nx_hm0_hf
      replace hf := hf.fsync hil hfiB hbi hop vf2
      have hbk_hf := hf.bk
      refine hK6 _ _ ?_
      refine CW.seq (fun K8 hK8 hE8 => ?_)
      refine CW.region ?_
      refine LR.v (Y.move rfl rfl) (Wd.u rfl) rfl rfl ?_
      refine LR.v (Y.assign rfl rfl) (Wd.u rfl) rfl rfl ?_
      refine LR.nil ?_
      refine hK8 _ _ ?_
      refine CW.ret (hret .ret (.inr rfl) _ _ _ (res1 rfl rfl) ?_)
      exact ⟨_, _, by rw [hlay]; rfl, by rw [hlay]; simp only [hlk, if_true, hnow, Option.getD_some]; exact hf, nx6, hm0⟩
    ·
      refine CW.skip ?_
      refine hK6 _ _ ?_
      refine CW.seq (fun K9 hK9 hE9 => ?_)
      refine CW.region ?_
      refine LR.v (Y.move rfl rfl) (Wd.u rfl) rfl rfl ?_
      refine LR.v (Y.assign rfl rfl) (Wd.u rfl) rfl rfl ?_
      refine LR.nil ?_
      refine hK9 _ _ ?_
      refine CW.ret (hret .ret (.inr rfl) _ _ _ (res1 rfl rfl) ?_)
      exact ⟨_, _, by rw [hlay]; rfl, by rw [hlay]; rw [if_neg (by omega)]; exact hf, nx_hm0_hf, hm0⟩

set_option maxHeartbeats 2000000 in
theorem rename_ct (mx_ : Int) (K : List Nat) (g : Gh) (b : Nat) (D : Dk) (p q : Pth) (w0 : World) (H0 : Heap)
    (hf : PDk K g H0 b D) (mx : MX mx_ H0) (bf_mx : BF (fun b => b = 0) H0.size) (dmx : DFL (fun b => b = 0) K) (hl : p.length ≤ 4294967280) (hl2 : q.length ≤ 4294967280) (hB : Bd 274877906944 D) :
    Ct Tryz.prog w0 49 #[ptr b, Str p, Str q] H0 (fun r H2 => ∃ K2 : List Nat, ∃ g2 : Gh, r = .int .i64 ((D.rename p q).1 : Int) ∧ (PDk K2 g2 H2 b (D.rename p q).2) ∧ (NxK K H0.size K2) ∧ Mo (Ms K) H0 H2) := by
  refine Ct.enter (args := [ptr b, Str p, Str q]) Tryz.func49 rfl rfl rfl ?_
  intro Q0 hret
  have hm0 : Mo (Ms K) H0 H0 := Mo.refl _ _
  have nx_hm0_hf := NxK.refl K H0.size
  have hbk_hf := hf.bk
  have hop0 := hB.op
  have hdm0 := hf.dml
  obtain ⟨D1, hD1⟩ : ∃ D1, D1 = D.begin.2 := ⟨_, rfl⟩
  have hB1 := hB.begin
  rw [← hD1] at hB1
  refine CW.seq (fun K1 hK1 hE1 => ?_)
  refine CW.region ?_
  refine LR.v (Y.assign rfl rfl) (Wd.u rfl) rfl rfl ?_
  refine LR.nil ?_
  refine hK1 _ _ ?_
  refine CW.seq (fun K2 hK2 hE2 => ?_)
  refine CW.seq (fun K3 hK3 hE3 => ?_)
  refine CW.region ?_
  refine LR.v (Y.move rfl rfl) (Wd.u rfl) rfl rfl ?_
  -- call (*selvage/simfs.FS).begin
  refine LR.call rfl Tryz.call73 rfl (Wd.u rfl) rfl rfl (begin_ct K g b D w0 _ hf (by omega)) (fun v10 H10 r10 => ?_)
  obtain ⟨g1, rfl, hf, hg1, hs10⟩ := r10
  replace mx := mx.upL hs10 (dmx)
  replace hm0 := hm0.trL hs10 (MIL.ofK (nx_hm0_hf) (by intro k hk; simp [hk]))
  have hz1 := hs10.size
  rw [← hD1] at hf
  refine LR.v (Y.not rfl rfl) (Wd.u rfl) rfl rfl ?_
  refine LR.nil ?_
  refine hK3 _ _ ?_
  refine CW.cond rfl (fun c11 => ?_) (fun c11 => ?_)
  ·
    refine CW.seq (fun K4 hK4 hE4 => ?_)
    refine CW.region ?_
    refine LR.v (Y.assign rfl rfl) (Wd.u rfl) rfl rfl ?_
    refine LR.nil ?_
    refine hK4 _ _ ?_
    refine CW.ret (hE2 .ret nofun _ _ (hret .ret (.inr rfl) _ _ _ (res1 rfl rfl) ?_))
    have hdd := ren_dead (p := p) (q := q) (show D.begin.1 = false by simpa using c11)
    exact ⟨_, _, by rw [hdd]; rfl, by rw [hdd]; rw [hD1] at hf; exact hf, nx_hm0_hf, hm0⟩
  ·
    have hgo : D.begin.1 = true := by simpa using c11
    have hops := (begin_true hgo).1
    rw [← hD1] at hops
    have hlay := ren_go (p := p) (q := q) hgo
    rw [← hD1] at hlay
    refine CW.skip ?_
    refine hK2 _ _ ?_
    refine CW.seq (fun K5 hK5 hE5 => ?_)
    refine CW.block (fun K6 hK6 hX6 hE6 => ?_)
    refine CW.seq (fun K7 hK7 hE7 => ?_)
    refine CW.region ?_
    refine LR.v (Y.move rfl rfl) (Wd.u rfl) rfl rfl ?_
    -- call selvage/simfs.Name
    refine LR.call rfl Tryz.call26 rfl (Wd.u rfl) rfl rfl (name_ct mx_ p w0 _ mx (bf_mx.mono (by omega)) hl) (fun v14 H14 r14 => ?_)
    obtain ⟨rfl, hs14⟩ := r14
    replace hf := hf.nw hs14
    replace mx := mx.nw hs14
    replace hm0 := hm0.trN hs14
    have hz2 := hs14.size
    refine LR.v (Y.not rfl rfl) (Wd.u rfl) rfl rfl ?_
    refine LR.v (Y.move rfl rfl) (Wd.u rfl) rfl rfl ?_
    refine LR.split (d := 16) rfl (fun g16 => ?_) (fun g16 => ?_)
    ·
      refine LR.gs rfl rfl rfl rfl rfl rfl ?_
      refine LR.gs rfl rfl rfl rfl rfl rfl ?_
      refine LR.gs rfl rfl rfl rfl rfl rfl ?_
      refine LR.v (Y.pick_t rfl rfl rfl) (Wd.u rfl) rfl rfl ?_
      refine LR.v (Y.assign rfl rfl) (Wd.u rfl) rfl rfl ?_
      refine LR.nil ?_
      refine hK7 _ _ ?_
      refine CW.cond_t rfl ?_
      refine CW.seq (fun K8 hK8 hE8 => ?_)
      refine CW.region ?_
      refine LR.v (Y.assign rfl rfl) (Wd.u rfl) rfl rfl ?_
      refine LR.nil ?_
      refine hK8 _ _ ?_
      refine CW.ret (hE6 .ret nofun (by simp) _ _ (hE5 .ret nofun _ _ (hret .ret (.inr rfl) _ _ _ (res1 rfl rfl) ?_)))
      have hE := renE_7 (D := D1) (p := p) (q := q) (by first | exact .inl (by simpa using g16) | exact .inr (by simpa using c12))
      exact ⟨_, _, by rw [hlay, hE]; rfl, by rw [hlay, hE]; exact hf, nx_hm0_hf, hm0⟩
    ·
      refine LR.v (Y.move rfl rfl) (Wd.g rfl rfl rfl) rfl rfl ?_
      -- call selvage/simfs.Name
      refine LR.call rfl Tryz.call26 rfl (Wd.g rfl rfl rfl) rfl rfl (name_ct mx_ q w0 _ mx (bf_mx.mono (by omega)) hl2) (fun v18 H18 r18 => ?_)
      obtain ⟨rfl, hs18⟩ := r18
      replace hf := hf.nw hs18
      replace mx := mx.nw hs18
      replace hm0 := hm0.trN hs18
      have hz3 := hs18.size
      refine LR.v (Y.not rfl rfl) (Wd.g rfl rfl rfl) rfl rfl ?_
      refine LR.v (Y.pick_f rfl rfl rfl) (Wd.u rfl) rfl rfl ?_
      refine LR.v (Y.assign rfl rfl) (Wd.u rfl) rfl rfl ?_
      refine LR.nil ?_
      refine hK7 _ _ ?_
      refine CW.cond rfl (fun c12 => ?_) (fun c12 => ?_)
      ·
        refine CW.seq (fun K9 hK9 hE9 => ?_)
        refine CW.region ?_
        refine LR.v (Y.assign rfl rfl) (Wd.u rfl) rfl rfl ?_
        refine LR.nil ?_
        refine hK9 _ _ ?_
        refine CW.ret (hE6 .ret nofun (by simp) _ _ (hE5 .ret nofun _ _ (hret .ret (.inr rfl) _ _ _ (res1 rfl rfl) ?_)))
        have hE := renE_7 (D := D1) (p := p) (q := q) (by first | exact .inl (by simpa using g16) | exact .inr (by simpa using c12))
        exact ⟨_, _, by rw [hlay, hE]; rfl, by rw [hlay, hE]; exact hf, nx_hm0_hf, hm0⟩
      ·
        refine CW.seq (fun K10 hK10 hE10 => ?_)
        refine CW.region ?_
        refine LR.v (Y.move rfl rfl) (Wd.u rfl) rfl rfl ?_
        -- call selvage/simfs.Dir
        refine LR.call rfl Tryz.call52 rfl (Wd.u rfl) rfl rfl (dir_ct mx_ p w0 _ mx (bf_mx.mono (by omega)) hl) (fun v23 H23 r23 => ?_)
        obtain ⟨rfl, hs23⟩ := r23
        replace hf := hf.nw hs23
        replace mx := mx.nw hs23
        replace hm0 := hm0.trN hs23
        have hz4 := hs23.size
        refine LR.v (Y.move rfl rfl) (Wd.u rfl) rfl rfl ?_
        -- call selvage/simfs.Dir
        refine LR.call rfl Tryz.call52 rfl (Wd.u rfl) rfl rfl (dir_ct mx_ q w0 _ mx (bf_mx.mono (by omega)) hl2) (fun v25 H25 r25 => ?_)
        obtain ⟨rfl, hs25⟩ := r25
        replace hf := hf.nw hs25
        replace mx := mx.nw hs25
        replace hm0 := hm0.trN hs25
        have hz5 := hs25.size
        refine LR.v (Y.sneq rfl rfl rfl) (Wd.u rfl) rfl rfl ?_
        refine LR.v (Y.assign rfl rfl) (Wd.u rfl) rfl rfl ?_
        refine LR.nil ?_
        refine hK10 _ _ ?_
        refine CW.condp rfl (fun c21 => ?_) (fun c21 => ?_)
        ·
          refine CW.seq (fun K11 hK11 hE11 => ?_)
          refine CW.region ?_
          refine LR.v (Y.assign rfl rfl) (Wd.u rfl) rfl rfl ?_
          refine LR.nil ?_
          refine hK11 _ _ ?_
          refine CW.ret (hE6 .ret nofun (by simp) _ _ (hE5 .ret nofun _ _ (hret .ret (.inr rfl) _ _ _ (res1 rfl rfl) ?_)))
          have hE := renE_13 (D := D1) (p := p) (q := q) (by simpa using g16) (by simpa using c12) (by simpa using c21)
          exact ⟨_, _, by rw [hlay, hE]; rfl, by rw [hlay, hE]; exact hf, nx_hm0_hf, hm0⟩
        ·
          have hdq : dirP p = dirP q := by simpa using c21
          have hn1 : nameB p = true := by simpa using g16
          have hn2 : nameB q = true := by simpa using c12
          have hrl := renE_l (D := D1) hn1 hn2 hdq
          refine CW.skip ?_
          refine hK6 _ _ ?_
          refine hK5 _ _ ?_
          refine CW.seq (fun K12 hK12 hE12 => ?_)
          refine CW.region ?_
          refine LR.v (Y.move rfl rfl) (Wd.u rfl) rfl rfl ?_
          refine LR.v (Y.move rfl rfl) (Wd.u rfl) rfl rfl ?_
          -- call (*selvage/simfs.FS).find
          refine LR.call rfl Tryz.call63 rfl (Wd.u rfl) rfl rfl (find_ct mx_ K g1 b D1 p w0 _ mx (bf_mx.mono (by omega)) hf hl) (fun v30 H30 r30 => ?_)
          obtain ⟨rfl, hs30⟩ := r30
          replace hf := hf.nw hs30
          replace mx := mx.nw hs30
          replace hm0 := hm0.trN hs30
          have hz6 := hs30.size
          refine LR.v (Y.move rfl rfl) (Wd.u rfl) rfl rfl ?_
          refine LR.v (Y.extract rfl rfl rfl) (Wd.u rfl) rfl rfl ?_
          refine LR.v (Y.extract rfl rfl rfl) (Wd.u rfl) rfl rfl ?_
          refine LR.v (Y.assign rfl rfl) (Wd.u rfl) rfl rfl ?_
          refine LR.v (Y.assign rfl rfl) (Wd.u rfl) rfl rfl ?_
          refine LR.nil ?_
          refine hK12 _ _ ?_
          refine CW.seq (fun K13 hK13 hE13 => ?_)
          refine CW.seq (fun K14 hK14 hE14 => ?_)
          refine CW.region ?_
          refine LR.v (Y.move rfl rfl) (Wd.u rfl) rfl rfl ?_
          refine LR.v (Y.eql rfl rfl rfl) (Wd.u rfl) rfl rfl ?_
          refine LR.v (Y.move rfl rfl) (Wd.u rfl) rfl rfl ?_
          refine LR.splitp (d := 35) rfl (fun g35 => ?_) (fun g35 => ?_)
          ·
            refine LR.v (Y.move rfl rfl) (Wd.g rfl rfl rfl) rfl rfl ?_
            refine LR.v (Y.move rfl rfl) (Wd.g rfl rfl rfl) rfl rfl ?_
            refine LR.v (Y.sneq rfl rfl rfl) (Wd.g rfl rfl rfl) rfl rfl ?_
            refine LR.v (Y.pick_t rfl rfl rfl) (Wd.u rfl) rfl rfl ?_
            refine LR.nil ?_
            refine hK14 _ _ ?_
            refine CW.condp rfl (fun c39 => ?_) (fun c39 => ?_)
            ·
              have hlk : D1.look p = 0 := by omega
              obtain ⟨hnm, i, hnow⟩ := look_0 hlk
              have hil := hf.ids.1 p i hnow
              refine CW.region ?_
              refine LR.v (Y.move rfl rfl) (Wd.u rfl) rfl rfl ?_
              refine LR.v (Y.move rfl rfl) (Wd.u rfl) rfl rfl ?_
              -- call selvage/simfs.Dir
              refine LR.call rfl Tryz.call52 rfl (Wd.u rfl) rfl rfl (dir_ct mx_ p w0 _ mx (bf_mx.mono (by omega)) hl) (fun v42 H42 r42 => ?_)
              obtain ⟨rfl, hs42⟩ := r42
              replace hf := hf.nw hs42
              replace mx := mx.nw hs42
              replace hm0 := hm0.trN hs42
              have hz7 := hs42.size
              refine LR.v (Y.move rfl rfl) (Wd.u rfl) rfl rfl ?_
              refine LR.v (Y.move rfl rfl) (Wd.u rfl) rfl rfl ?_
              refine LR.v (Y.move rfl rfl) (Wd.u rfl) rfl rfl ?_
              refine LR.v (Y.cast (v2 := .agg (fC g1.fb ⟨p, q, some i⟩).toArray) (Y.build (v := .agg #[Str p, Str q, .pointer (fpt g1.fb (if D1.look p = 0 then mget D1.now p else none))]) rfl rfl (by intro w; kernel_rfl)) (by rw [if_pos hlk, hnow])) (Wd.u rfl) rfl rfl ?_
              -- call (*selvage/simfs.FS).change
              refine LR.call rfl Tryz.call85 rfl (Wd.u rfl) rfl rfl (change_ct K g1 b D1 (dirP p) ⟨p, q, some i⟩ w0 _ hf (by rw [hg1.2.2.2]; omega) (by simp [Chg.dir, name_ne hnm]) (fun j hj => by cases hj; exact ⟨hdq.symm, hil⟩) (fun h => rfl) (by have := hB1.lg; omega)) (fun v47 H47 r47 => ?_)
              have ql1 := hf.bk
              obtain ⟨K47, g47, rfl, hf, hkd47, hg47, hs47⟩ := r47
              have df2 := DFL.appK (dmx) (bf_mx.mono hm0.size) hkd47
              have nx3 : NxK K H0.size K47 := NxK.tr (nx_hm0_hf) hkd47 hm0.size
              replace mx := mx.upL hs47 (dmx)
              replace hm0 := hm0.trL hs47 (MIL.ofK (nx_hm0_hf) (by intro k hk; simp [hk]))
              have hz8 := hs47.size
              have hbk_hf := hf.bk
              refine LR.nil ?_
              refine hK13 _ _ ?_
              refine CW.seq (fun K15 hK15 hE15 => ?_)
              refine CW.region ?_
              refine LR.v (Y.move rfl rfl) (Wd.u rfl) rfl rfl ?_
              refine LR.v (Y.assign rfl rfl) (Wd.u rfl) rfl rfl ?_
              refine LR.nil ?_
              refine hK15 _ _ ?_
              refine CW.ret (hret .ret (.inr rfl) _ _ _ (res1 rfl rfl) ?_)
              exact ⟨_, _, by rw [hlay, hrl]; rfl, by rw [hlay, hrl]; rw [if_pos ⟨hlk, by simpa using c39⟩, hnow]; exact hf, nx3, hm0⟩
            ·
              refine CW.skip ?_
              refine hK13 _ _ ?_
              refine CW.seq (fun K16 hK16 hE16 => ?_)
              refine CW.region ?_
              refine LR.v (Y.move rfl rfl) (Wd.u rfl) rfl rfl ?_
              refine LR.v (Y.assign rfl rfl) (Wd.u rfl) rfl rfl ?_
              refine LR.nil ?_
              refine hK16 _ _ ?_
              refine CW.ret (hret .ret (.inr rfl) _ _ _ (res1 rfl rfl) ?_)
              exact ⟨_, _, by rw [hlay, hrl]; rfl, by rw [hlay, hrl]; rw [if_neg (fun h => by first | exact g35 (by omega) | exact h.2 (by simpa using c39))]; exact hf, nx_hm0_hf, hm0⟩
          ·
            refine LR.gs rfl rfl rfl rfl rfl rfl ?_
            refine LR.gs rfl rfl rfl rfl rfl rfl ?_
            refine LR.gs rfl rfl rfl rfl rfl rfl ?_
            refine LR.v (Y.pick_f rfl rfl rfl) (Wd.u rfl) rfl rfl ?_
            refine LR.nil ?_
            refine hK14 _ _ ?_
            refine CW.cond_f rfl ?_
            refine CW.skip ?_
            refine hK13 _ _ ?_
            refine CW.seq (fun K17 hK17 hE17 => ?_)
            refine CW.region ?_
            refine LR.v (Y.move rfl rfl) (Wd.u rfl) rfl rfl ?_
            refine LR.v (Y.assign rfl rfl) (Wd.u rfl) rfl rfl ?_
            refine LR.nil ?_
            refine hK17 _ _ ?_
            refine CW.ret (hret .ret (.inr rfl) _ _ _ (res1 rfl rfl) ?_)
            exact ⟨_, _, by rw [hlay, hrl]; rfl, by rw [hlay, hrl]; rw [if_neg (fun h => by first | exact g35 (by omega) | exact h.2 (by simpa using c39))]; exact hf, nx_hm0_hf, hm0⟩

set_option maxHeartbeats 2000000 in
theorem syncDir_ct (mx_ : Int) (K : List Nat) (g : Gh) (b : Nat) (D : Dk) (p : Pth) (w0 : World) (H0 : Heap)
    (hf : PDk K g H0 b D) (mx : MX mx_ H0) (bf_mx : BF (fun b => b = 0) H0.size) (dmx : DFL (fun b => b = 0) K) (hl : p.length ≤ 4294967280) (hB : Bd 274877906944 D) :
    Ct Tryz.prog w0 51 #[ptr b, Str p] H0 (fun r H2 => ∃ K2 : List Nat, ∃ g2 : Gh, r = .int .i64 ((D.syncDir p).1 : Int) ∧ (PDk K2 g2 H2 b (D.syncDir p).2) ∧ (NxK K H0.size K2) ∧ Mo (Ms K) H0 H2) := by
  refine Ct.enter (args := [ptr b, Str p]) Tryz.func51 rfl rfl rfl ?_
  intro Q0 hret
  have hm0 : Mo (Ms K) H0 H0 := Mo.refl _ _
  have nx_hm0_hf := NxK.refl K H0.size
  have hbk_hf := hf.bk
  have hop0 := hB.op
  have hdm0 := hf.dml
  obtain ⟨D1, hD1⟩ : ∃ D1, D1 = D.begin.2 := ⟨_, rfl⟩
  have hB1 := hB.begin
  rw [← hD1] at hB1
  refine CW.seq (fun K1 hK1 hE1 => ?_)
  refine CW.region ?_
  refine LR.v (Y.assign rfl rfl) (Wd.u rfl) rfl rfl ?_
  refine LR.nil ?_
  refine hK1 _ _ ?_
  refine CW.seq (fun K2 hK2 hE2 => ?_)
  refine CW.seq (fun K3 hK3 hE3 => ?_)
  refine CW.region ?_
  refine LR.v (Y.move rfl rfl) (Wd.u rfl) rfl rfl ?_
  -- call (*selvage/simfs.FS).begin
  refine LR.call rfl Tryz.call73 rfl (Wd.u rfl) rfl rfl (begin_ct K g b D w0 _ hf (by omega)) (fun v7 H7 r7 => ?_)
  obtain ⟨g1, rfl, hf, hg1, hs7⟩ := r7
  replace mx := mx.upL hs7 (dmx)
  replace hm0 := hm0.trL hs7 (MIL.ofK (nx_hm0_hf) (by intro k hk; simp [hk]))
  have hz1 := hs7.size
  rw [← hD1] at hf
  refine LR.v (Y.not rfl rfl) (Wd.u rfl) rfl rfl ?_
  refine LR.nil ?_
  refine hK3 _ _ ?_
  refine CW.cond rfl (fun c8 => ?_) (fun c8 => ?_)
  ·
    refine CW.seq (fun K4 hK4 hE4 => ?_)
    refine CW.region ?_
    refine LR.v (Y.assign rfl rfl) (Wd.u rfl) rfl rfl ?_
    refine LR.nil ?_
    refine hK4 _ _ ?_
    refine CW.ret (hE2 .ret nofun _ _ (hret .ret (.inr rfl) _ _ _ (res1 rfl rfl) ?_))
    have hdd := sd_dead (p := p) (show D.begin.1 = false by simpa using c8)
    exact ⟨_, _, by rw [hdd]; rfl, by rw [hdd]; rw [hD1] at hf; exact hf, nx_hm0_hf, hm0⟩
  ·
    have hgo : D.begin.1 = true := by simpa using c8
    have hops := (begin_true hgo).1
    rw [← hD1] at hops
    have hlay := sd_go (p := p) hgo
    rw [← hD1] at hlay
    refine CW.skip ?_
    refine hK2 _ _ ?_
    refine CW.seq (fun K5 hK5 hE5 => ?_)
    refine CW.seq (fun K6 hK6 hE6 => ?_)
    refine CW.region ?_
    refine LR.v (Y.move rfl rfl) (Wd.u rfl) rfl rfl ?_
    refine LR.v (Y.sneq rfl rfl rfl) (Wd.u rfl) rfl rfl ?_
    refine LR.v (Y.move rfl rfl) (Wd.u rfl) rfl rfl ?_
    refine LR.splitp (d := 11) rfl (fun g11 => ?_) (fun g11 => ?_)
    ·
      refine LR.v (Y.move rfl rfl) (Wd.g rfl rfl rfl) rfl rfl ?_
      -- call selvage/simfs.Name
      refine LR.call rfl Tryz.call26 rfl (Wd.g rfl rfl rfl) rfl rfl (name_ct mx_ p w0 _ mx (bf_mx.mono (by omega)) hl) (fun v13 H13 r13 => ?_)
      obtain ⟨rfl, hs13⟩ := r13
      replace hf := hf.nw hs13
      replace mx := mx.nw hs13
      replace hm0 := hm0.trN hs13
      have hz2 := hs13.size
      refine LR.v (Y.not rfl rfl) (Wd.g rfl rfl rfl) rfl rfl ?_
      refine LR.v (Y.pick_t rfl rfl rfl) (Wd.u rfl) rfl rfl ?_
      refine LR.nil ?_
      refine hK6 _ _ ?_
      refine CW.cond rfl (fun c15 => ?_) (fun c15 => ?_)
      ·
        refine CW.seq (fun K7 hK7 hE7 => ?_)
        refine CW.region ?_
        refine LR.v (Y.assign rfl rfl) (Wd.u rfl) rfl rfl ?_
        refine LR.nil ?_
        refine hK7 _ _ ?_
        refine CW.ret (hE5 .ret nofun _ _ (hret .ret (.inr rfl) _ _ _ (res1 rfl rfl) ?_))
        have hE : dirE p = 7 := by unfold dirE; rw [if_pos ⟨g11, by simpa using c15⟩]
        exact ⟨_, _, by rw [hlay, hE]; rfl, by rw [hlay, hE]; exact hf, nx_hm0_hf, hm0⟩
      ·
        refine CW.skip ?_
        refine hK5 _ _ ?_
        refine CW.seq (fun K8 hK8 hE8 => ?_)
        refine CW.region ?_
        refine LR.v (Y.move rfl rfl) (Wd.u rfl) rfl rfl ?_
        refine LR.v (Y.move rfl rfl) (Wd.u rfl) rfl rfl ?_
        -- call (*selvage/simfs.FS).dir
        refine LR.call rfl Tryz.call86 rfl (Wd.u rfl) rfl rfl (mkdir_ct K g1 b D1 p w0 _ hf (by rw [hg1.2.2.2]; omega)) (fun v18 H18 r18 => ?_)
        have ql1 := hf.bk
        obtain ⟨K18, g18, db, rfl, hf, hkd18, hdb, hg18, hs18⟩ := r18
        have df2 := DFL.appK (dmx) (bf_mx.mono hm0.size) hkd18
        have nx3 : NxK K H0.size K18 := NxK.tr (nx_hm0_hf) hkd18 hm0.size
        replace mx := mx.upL hs18 (dmx)
        replace hm0 := hm0.trL hs18 (MIL.ofK (nx_hm0_hf) (by intro k hk; simp [hk]))
        have hz3 := hs18.size
        have hbk_hf := hf.bk
        refine LR.v (Y.assign rfl rfl) (Wd.u rfl) rfl rfl ?_
        refine LR.nil ?_
        refine hK8 _ _ ?_
        refine CW.seq (fun K9 hK9 hE9 => ?_)
        obtain ⟨nbB, sbB, kcB, svB, nmB, smB, hdB⟩ := hf.dirs _ db hdb
        have hop : Mo (Ms [(db + 1)]) H18 H18 := Mo.refl _ _
        have km4 : KM K18 (db + 1) := (hf.km1 hdB.rd (by simp))
        have vd := hdB.vd
        have hlt_vd := vd.lt
        have df5 := DFL.at (df2) km4
        have nx6 : MI K H0.size (db + 1) := MIL.at (MIL.ofK (nx3) (by intro k hk; simp [hk])) km4
        have nx7 := Nx.refl (db + 1) H18.size
        refine CW.region ?_
        refine LR.v (Y.move rfl rfl) (Wd.u rfl) rfl rfl ?_
        refine LR.v (Y.move rfl rfl) (Wd.u rfl) rfl rfl ?_
        refine LR.v (Y.move rfl rfl) (Wd.u rfl) rfl rfl ?_
        refine LR.v (Y.nilCheck rfl rfl) (Wd.u rfl) rfl rfl ?_
        refine LR.v (Y.fieldAddr vd.pt rfl Tryz.runUnderlying99 rfl rfl Tryz.sizeOf96 (by decide) rfl) (Wd.u rfl) rfl rfl ?_
        refine LR.v (Y.fieldAddr vd.pt rfl Tryz.runUnderlying96 rfl rfl Tryz.sizeOf94 (by decide) rfl) (Wd.u rfl) rfl rfl ?_
        refine LR.v (Y.load1 vd.pt rfl Tryz.isAgg94 rfl) (Wd.u rfl) rfl rfl ?_
        -- call maps.Clone[selvage/simfs.names,string,*selvage/simfs.file]
        refine LR.call rfl Tryz.call40 rfl (Wd.u rfl) rfl rfl (mclone_ct nbB nmB w0 _ hdB.hn) (fun v26 H26 r26 => ?_)
        obtain ⟨b26, rfl, hm26, hk26, hs26⟩ := r26
        have df8 := DF.app (DF.z) (bf_mx.mono hm0.size) hk26
        have dj9 : Dj (db + 1) (b26 + 1) := Dj.app (Dj.z) vd.lt hk26
        have nx10 : Nx 0 H0.size (b26 + 1) := Nx.tr (Nx.refl 0 _) hk26 hm0.size
        have nx11 : Nx 0 H18.size (b26 + 1) := Nx.tr (Nx.refl 0 _) hk26 hop.size
        replace mx := mx.nw hs26
        replace vd := vd.nw hs26
        replace hm0 := hm0.trN hs26
        replace hop := hop.trN hs26
        have hz4 := hs26.size
        have hle_hm26 := hm26.le
        refine LR.v (Y.nilCheck rfl rfl) (Wd.u rfl) rfl rfl ?_
        refine LR.v (Y.fieldAddr vd.pt rfl Tryz.runUnderlying99 rfl rfl Tryz.sizeOf96 (by decide) rfl) (Wd.u rfl) rfl rfl ?_
        refine LR.v (Y.fieldAddr vd.pt rfl Tryz.runUnderlying96 rfl rfl Tryz.sizeOf94 (by decide) rfl) (Wd.u rfl) rfl rfl ?_
        refine LR.s (S.var1 vd 1 ([.map (some nbB), .map (some b26), svB.v]) rfl rfl rfl (rfl) Tryz.sizeOf94 (by simp) (rfl)) (Wd.u rfl) rfl (fun H6_11 r6_11 => ?_)
        obtain ⟨vd, hs6_11⟩ := r6_11
        replace hs6_11 := hs6_11.md1
        replace mx := mx.upL hs6_11 (DFL.cons df5 DFL.nil)
        replace hm26 := hm26.upL hs6_11 (DL.cons dj9.symm DL.nil)
        replace hm0 := hm0.trL hs6_11 (MIL.cons (nx6) MIL.nil)
        replace hop := hop.trL hs6_11 (MIL.cons (MI.app (MI.root (by simp)) (nx7) (Nat.le_refl _)) MIL.nil)
        have hz5 := hs6_11.size
        refine LR.v (Y.nilCheck rfl rfl) (Wd.u rfl) rfl rfl ?_
        refine LR.v (Y.fieldAddr vd.pt rfl Tryz.runUnderlying99 rfl rfl Tryz.sizeOf97 (by decide) rfl) (Wd.u rfl) rfl rfl ?_
        refine LR.s (S.var1 vd 2 ([.map (some nbB), .map (some b26), .slice none 0 0]) rfl rfl rfl (rfl) Tryz.sizeOf97 (by simp) (rfl)) (Wd.u rfl) rfl (fun H6_14 r6_14 => ?_)
        obtain ⟨vd, hs6_14⟩ := r6_14
        replace hs6_14 := hs6_14.md1
        replace mx := mx.upL hs6_14 (DFL.cons df5 DFL.nil)
        replace hm26 := hm26.upL hs6_14 (DL.cons dj9.symm DL.nil)
        replace hm0 := hm0.trL hs6_14 (MIL.cons (nx6) MIL.nil)
        replace hop := hop.trL hs6_14 (MIL.cons (MI.app (MI.root (by simp)) (nx7) (Nat.le_refl _)) MIL.nil)
        have hz6 := hs6_14.size
        refine LR.nil ?_
        have df12 : DFL _ ((b26 + 1) :: K18) := (DFL.cons (df8) (df2))
        have nx13 : NxK K H0.size ((b26 + 1) :: K18) := (NxK.cons (nx10) (nx3))
        replace hf := hf.dsync hB1.an hdb hdB hop vd hm26 (fun _ => rfl) (DL.nxK hf.bk (nx11))
        have hbk_hf := hf.bk
        refine hK9 _ _ ?_
        refine CW.seq (fun K10 hK10 hE10 => ?_)
        refine CW.region ?_
        refine LR.v (Y.assign rfl rfl) (Wd.u rfl) rfl rfl ?_
        refine LR.nil ?_
        refine hK10 _ _ ?_
        refine CW.ret (hret .ret (.inr rfl) _ _ _ (res1 rfl rfl) ?_)
        have hE : dirE p = 0 := by unfold dirE; rw [if_neg (fun h => by first | exact absurd h.1 g11 | (rw [h.2] at c15; cases c15))]
        exact ⟨_, _, by rw [hlay, hE]; rfl, by rw [hlay, hE]; exact hf, nx13, hm0⟩
    ·
      refine LR.gs rfl rfl rfl rfl rfl rfl ?_
      refine LR.gs rfl rfl rfl rfl rfl rfl ?_
      refine LR.gs rfl rfl rfl rfl rfl rfl ?_
      refine LR.v (Y.pick_f rfl rfl rfl) (Wd.u rfl) rfl rfl ?_
      refine LR.nil ?_
      refine hK6 _ _ ?_
      refine CW.cond_f rfl ?_
      refine CW.skip ?_
      refine hK5 _ _ ?_
      refine CW.seq (fun K11 hK11 hE11 => ?_)
      refine CW.region ?_
      refine LR.v (Y.move rfl rfl) (Wd.u rfl) rfl rfl ?_
      refine LR.v (Y.move rfl rfl) (Wd.u rfl) rfl rfl ?_
      -- call (*selvage/simfs.FS).dir
      refine LR.call rfl Tryz.call86 rfl (Wd.u rfl) rfl rfl (mkdir_ct K g1 b D1 p w0 _ hf (by rw [hg1.2.2.2]; omega)) (fun v18 H18 r18 => ?_)
      have ql14 := hf.bk
      obtain ⟨K18, g18, db, rfl, hf, hkd18, hdb, hg18, hs18⟩ := r18
      have df15 := DFL.appK (dmx) (bf_mx.mono hm0.size) hkd18
      have nx16 : NxK K H0.size K18 := NxK.tr (nx_hm0_hf) hkd18 hm0.size
      replace mx := mx.upL hs18 (dmx)
      replace hm0 := hm0.trL hs18 (MIL.ofK (nx_hm0_hf) (by intro k hk; simp [hk]))
      have hz7 := hs18.size
      have hbk_hf := hf.bk
      refine LR.v (Y.assign rfl rfl) (Wd.u rfl) rfl rfl ?_
      refine LR.nil ?_
      refine hK11 _ _ ?_
      refine CW.seq (fun K12 hK12 hE12 => ?_)
      obtain ⟨nbB, sbB, kcB, svB, nmB, smB, hdB⟩ := hf.dirs _ db hdb
      have hop : Mo (Ms [(db + 1)]) H18 H18 := Mo.refl _ _
      have km17 : KM K18 (db + 1) := (hf.km1 hdB.rd (by simp))
      have vd := hdB.vd
      have hlt_vd := vd.lt
      have df18 := DFL.at (df15) km17
      have nx19 : MI K H0.size (db + 1) := MIL.at (MIL.ofK (nx16) (by intro k hk; simp [hk])) km17
      have nx20 := Nx.refl (db + 1) H18.size
      refine CW.region ?_
      refine LR.v (Y.move rfl rfl) (Wd.u rfl) rfl rfl ?_
      refine LR.v (Y.move rfl rfl) (Wd.u rfl) rfl rfl ?_
      refine LR.v (Y.move rfl rfl) (Wd.u rfl) rfl rfl ?_
      refine LR.v (Y.nilCheck rfl rfl) (Wd.u rfl) rfl rfl ?_
      refine LR.v (Y.fieldAddr vd.pt rfl Tryz.runUnderlying99 rfl rfl Tryz.sizeOf96 (by decide) rfl) (Wd.u rfl) rfl rfl ?_
      refine LR.v (Y.fieldAddr vd.pt rfl Tryz.runUnderlying96 rfl rfl Tryz.sizeOf94 (by decide) rfl) (Wd.u rfl) rfl rfl ?_
      refine LR.v (Y.load1 vd.pt rfl Tryz.isAgg94 rfl) (Wd.u rfl) rfl rfl ?_
      -- call maps.Clone[selvage/simfs.names,string,*selvage/simfs.file]
      refine LR.call rfl Tryz.call40 rfl (Wd.u rfl) rfl rfl (mclone_ct nbB nmB w0 _ hdB.hn) (fun v26 H26 r26 => ?_)
      obtain ⟨b26, rfl, hm26, hk26, hs26⟩ := r26
      have df21 := DF.app (DF.z) (bf_mx.mono hm0.size) hk26
      have dj22 : Dj (db + 1) (b26 + 1) := Dj.app (Dj.z) vd.lt hk26
      have nx23 : Nx 0 H0.size (b26 + 1) := Nx.tr (Nx.refl 0 _) hk26 hm0.size
      have nx24 : Nx 0 H18.size (b26 + 1) := Nx.tr (Nx.refl 0 _) hk26 hop.size
      replace mx := mx.nw hs26
      replace vd := vd.nw hs26
      replace hm0 := hm0.trN hs26
      replace hop := hop.trN hs26
      have hz8 := hs26.size
      have hle_hm26 := hm26.le
      refine LR.v (Y.nilCheck rfl rfl) (Wd.u rfl) rfl rfl ?_
      refine LR.v (Y.fieldAddr vd.pt rfl Tryz.runUnderlying99 rfl rfl Tryz.sizeOf96 (by decide) rfl) (Wd.u rfl) rfl rfl ?_
      refine LR.v (Y.fieldAddr vd.pt rfl Tryz.runUnderlying96 rfl rfl Tryz.sizeOf94 (by decide) rfl) (Wd.u rfl) rfl rfl ?_
      refine LR.s (S.var1 vd 1 ([.map (some nbB), .map (some b26), svB.v]) rfl rfl rfl (rfl) Tryz.sizeOf94 (by simp) (rfl)) (Wd.u rfl) rfl (fun H6_11 r6_11 => ?_)
      obtain ⟨vd, hs6_11⟩ := r6_11
      replace hs6_11 := hs6_11.md1
      replace mx := mx.upL hs6_11 (DFL.cons df18 DFL.nil)
      replace hm26 := hm26.upL hs6_11 (DL.cons dj22.symm DL.nil)
      replace hm0 := hm0.trL hs6_11 (MIL.cons (nx19) MIL.nil)
      replace hop := hop.trL hs6_11 (MIL.cons (MI.app (MI.root (by simp)) (nx20) (Nat.le_refl _)) MIL.nil)
      have hz9 := hs6_11.size
      refine LR.v (Y.nilCheck rfl rfl) (Wd.u rfl) rfl rfl ?_
      refine LR.v (Y.fieldAddr vd.pt rfl Tryz.runUnderlying99 rfl rfl Tryz.sizeOf97 (by decide) rfl) (Wd.u rfl) rfl rfl ?_
      refine LR.s (S.var1 vd 2 ([.map (some nbB), .map (some b26), .slice none 0 0]) rfl rfl rfl (rfl) Tryz.sizeOf97 (by simp) (rfl)) (Wd.u rfl) rfl (fun H6_14 r6_14 => ?_)
      obtain ⟨vd, hs6_14⟩ := r6_14
      replace hs6_14 := hs6_14.md1
      replace mx := mx.upL hs6_14 (DFL.cons df18 DFL.nil)
      replace hm26 := hm26.upL hs6_14 (DL.cons dj22.symm DL.nil)
      replace hm0 := hm0.trL hs6_14 (MIL.cons (nx19) MIL.nil)
      replace hop := hop.trL hs6_14 (MIL.cons (MI.app (MI.root (by simp)) (nx20) (Nat.le_refl _)) MIL.nil)
      have hz10 := hs6_14.size
      refine LR.nil ?_
      have df25 : DFL _ ((b26 + 1) :: K18) := (DFL.cons (df21) (df15))
      have nx26 : NxK K H0.size ((b26 + 1) :: K18) := (NxK.cons (nx23) (nx16))
      replace hf := hf.dsync hB1.an hdb hdB hop vd hm26 (fun _ => rfl) (DL.nxK hf.bk (nx24))
      have hbk_hf := hf.bk
      refine hK12 _ _ ?_
      refine CW.seq (fun K13 hK13 hE13 => ?_)
      refine CW.region ?_
      refine LR.v (Y.assign rfl rfl) (Wd.u rfl) rfl rfl ?_
      refine LR.nil ?_
      refine hK13 _ _ ?_
      refine CW.ret (hret .ret (.inr rfl) _ _ _ (res1 rfl rfl) ?_)
      have hE : dirE p = 0 := by unfold dirE; rw [if_neg (fun h => by first | exact absurd h.1 g11 | (rw [h.2] at c15; cases c15))]
      exact ⟨_, _, by rw [hlay, hE]; rfl, by rw [hlay, hE]; exact hf, nx26, hm0⟩

end Go.Proofs.YtdliddjkacbggaaGreatDoor.SimI
/-
  Texts that are sorted.
-/
namespace Go.Proofs.YtdliddjkacbggaaGreatDoor.SimJ
open Go.Proofs.YtdliddjkacbggaaGreatDoor.E Go.RowKit Go.Proofs.YtdliddjkacbggaaGreatDoor.SimA Go.Proofs.YtdliddjkacbggaaGreatDoor.SimB Go.Proofs.YtdliddjkacbggaaGreatDoor.SimC Go.Proofs.YtdliddjkacbggaaGreatDoor.SimD Go.Proofs.YtdliddjkacbggaaGreatDoor.SimE Go.Proofs.YtdliddjkacbggaaGreatDoor.SimF Go.Proofs.YtdliddjkacbggaaGreatDoor.SimG Go.Proofs.YtdliddjkacbggaaGreatDoor.SimH Go.Proofs.YtdliddjkacbggaaGreatDoor.SimI
set_option maxRecDepth 20000
set_option linter.unusedVariables false
set_option linter.unusedSimpArgs false
set_option linter.unusedSectionVars false

open Go.Sort Go.Shelf
theorem blt_lt (a b : Pth) : blt a b ↔ a < b := by unfold blt; rw [bytesLess_eq, decide_eq_true_iff]
theorem not_blt {a b : Pth} (h : a ≤ b) : ¬ blt b a := by rw [blt_lt]; exact List.not_lt.2 h
theorem sorted_rise {l m : List Pth} (hn : l.Nodup) (h : m = l.mergeSort (fun x y => decide (x ≤ y))) : Rise m ∧ m.Perm l := by
  subst h
  have hp := List.mergeSort_perm l (fun x y => decide (x ≤ y))
  have hs : (l.mergeSort (fun x y => decide (x ≤ y))).Pairwise (fun x y => decide (x ≤ y) = true) := List.pairwise_mergeSort (le := fun x y : List UInt8 => decide (x ≤ y)) (fun a b c h1 h2 => by
    simp only [decide_eq_true_eq] at *; exact List.le_trans h1 h2) (fun a b => by
    simp only [Bool.or_eq_true, decide_eq_true_eq]; exact List.le_total a b) l
  have hn2 : (l.mergeSort (fun x y => decide (x ≤ y))).Nodup := hp.nodup_iff.2 hn
  refine ⟨?_, hp⟩
  unfold Rise
  rw [List.nodup_iff_pairwise_ne] at hn2
  refine (hs.and hn2).imp (fun {x y} h => ?_)
  obtain ⟨h1, h2⟩ := h
  refine Classical.byContradiction (fun h3 => h2 (blt_total h3 ?_))
  simp only [decide_eq_true_eq] at h1
  exact not_blt h1
theorem flatS : ∀ l : List Pth, l.flatMap fS = l.map Str
  | [] => rfl
  | x :: l => by rw [List.flatMap_cons, flatS l]; rfl
theorem putCells_S (d : Array Pth) (cur : Array Value) (h : d.size ≤ cur.size) : (putCells encStr 0 d cur).size = cur.size ∧ (putCells encStr 0 d cur).toList.take d.size = d.toList.flatMap fS := by
  refine ⟨by simp [putCells], ?_⟩
  rw [flatS]
  apply List.ext_getElem?
  intro i
  rw [List.getElem?_take]
  split
  · rename_i hi
    rw [Array.getElem?_toList, List.getElem?_map, Array.getElem?_toList, Array.getElem?_eq_getElem (by simp [putCells]; omega), Array.getElem?_eq_getElem hi]
    simp only [putCells, Array.getElem_mapIdx, Nat.zero_le, Nat.zero_add, true_and, Nat.sub_zero]
    rw [if_pos hi, getElem!_pos d i hi]; rfl
  · rw [List.getElem?_map, Array.getElem?_toList, Array.getElem?_eq_none (by omega)]; rfl
theorem sortS_ct (k : Nat) (v : Value) (l : List Pth) (w0 : World) (H : Heap) (h : Ow k 9 H fS 1 v l) (hl : l.length < 4611686018427387904) :
    Ct Tryz.prog w0 78 #[v] H (fun r H2 => ∃ l2 : List Pth, ∃ k2 : Nat, r = .tuple #[] ∧ Ow k2 9 H2 fS 1 v l2 ∧ Nx k H.size k2 ∧ (l2 = l.mergeSort (fun x y => decide (x ≤ y))) ∧ Mo (Ms [k]) H H2) := by
  intro w ha
  rcases h.own.ex with ⟨hv, hx⟩ | ⟨g', cap, cur, hv, hk, hr, h1, h2, h3, h4⟩
  · subst hv hx
    exact (Any.slices_Sort_string_none Tryz.lays190 none 0 w).mono (fun e w' ⟨he, hw⟩ => ⟨_, H, he, by rw [hw]; exact ha, [], k, rfl, h, Nx.refl _ _, by simp, Mo.refl _ _⟩)
  · obtain ⟨fz, hh, hsf⟩ := id hr
    have hwb : w.heap[g']? = some (.cells cur 9 fz) := by rw [ha.heap]; exact hh
    have hle : l.length ≤ cur.size := by rw [h3]; omega
    have hH : Holds encStr w g' 0 l.toArray := by
      intro j hj
      have hjl : j < l.length := by simpa using hj
      have hc : cur[j]? = some (Str l[j]) := by
        have : (cur.toList.take (l.length * 1))[j]? = (l.flatMap fS)[j]? := by rw [h4]
        rw [List.getElem?_take, if_pos (by omega), Array.getElem?_toList, flatS] at this
        rw [this, List.getElem?_map, List.getElem?_eq_getElem hjl]; rfl
      refine ⟨?_, ?_⟩
      · simp only [World.cell?, hwb, Nat.zero_add, Option.isSome_none, Bool.false_eq_true, if_false, id_eq]
        rw [hc, getElem!_pos l.toArray j hj]; rfl
      · have := hsf.2 j (by omega)
        simp only [World.frozen?, hwb, Nat.zero_add]
        simpa using this
    have hg : g' < w.heap.size := by rw [ha.heap]; exact hr.lt
    have hcon := Any.slices_Sort_string Tryz.lays190 g' 0 cap l w hH hg hl
    rw [← hv] at hcon
    refine hcon.mono ?_
    rintro en w' ⟨he, n, os, rfl⟩
    have hd : (l.mergeSort fun x y => decide (x ≤ y)).length = l.length := List.length_mergeSort l
    obtain ⟨hF1, hF2⟩ := putCells_S (l.mergeSort fun x y => decide (x ≤ y)).toArray cur (by simp; exact hle)
    have hheap : (grow (putRow encStr (Sort.ahead w n) g' 0 (l.mergeSort fun x y => decide (x ≤ y)).toArray) os).heap = w.heap.modify g' (onCells (putCells encStr 0 (l.mergeSort fun x y => decide (x ≤ y)).toArray)) ++ os := rfl
    have hat : (grow (putRow encStr (Sort.ahead w n) g' 0 (l.mergeSort fun x y => decide (x ≤ y)).toArray) os).heap[g']? = some (.cells (putCells encStr 0 (l.mergeSort fun x y => decide (x ≤ y)).toArray cur) 9 fz) := by
      rw [hheap, Array.getElem?_append_left (by simpa using hg), Array.getElem?_modify, if_pos rfl, hwb]; rfl
    refine ⟨_, (grow (putRow encStr (Sort.ahead w n) g' 0 (l.mergeSort fun x y => decide (x ≤ y)).toArray) os).heap, he, ⟨rfl, ha.os, ha.tape, ha.output, Nat.le_trans ha.dr (Nat.le_add_right _ _)⟩, _, k, rfl, ⟨⟨fS_len, fS_one, .inr ⟨g', cap, _, by rw [hd]; exact hv, hk, ⟨fz, hat, by rw [hF1]; exact hsf⟩, by rw [hd]; exact h1, h2, by rw [hF1]; exact h3, ?_⟩⟩, ?_⟩, Nx.refl _ _, rfl, ?_, ?_⟩
    · simpa using hF2
    · rw [hheap]
      have := h.le
      simp [ha.heap]; omega
    · rw [hheap]; simp [ha.heap]
    · intro b hb hn
      have hne : g' ≠ b := fun q => hn (by unfold Ms; rw [← q]; simp [hk])
      rw [hheap, Array.getElem?_append_left (by simp [ha.heap, hb]), Array.getElem?_modify, if_neg hne, ha.heap]

end Go.Proofs.YtdliddjkacbggaaGreatDoor.SimJ
