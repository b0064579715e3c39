/-
  The disk: changes of names, operations that begin, files that are looked for.
-/
import Derived.Test.YtfbfjhppppoilaaDoorSimC
namespace Go.Proofs.YtfbfjhppppoilaaDoor.SimD
open Go.Proofs.YtfbfjhppppoilaaDoor.E Go.RowKit Go.Proofs.YtfbfjhppppoilaaDoor.SimA Go.Proofs.YtfbfjhppppoilaaDoor.SimB Go.Proofs.YtfbfjhppppoilaaDoor.SimC
set_option maxRecDepth 20000
set_option linter.unusedVariables false
set_option linter.unusedSimpArgs false
set_option linter.unusedSectionVars false

def Chg.apM (c : Chg) (m : Nms) : Nms :=
  let m1 := if c.g = [] then m else mdel m c.g
  match c.f with
  | none => m1
  | some i => mput m1 c.n i
theorem mget_apM (c : Chg) (l : Nms) (q : Pth) : mget (Chg.apM c l) q = c.at q (mget l q) := by
  unfold Chg.apM Chg.at
  cases c.f with
  | none =>
    simp only
    by_cases hg : c.g = []
    · simp [hg]
    · rw [if_neg hg, mget_del]; simp [hg]
  | some i =>
    simp only
    rw [mget_put]
    by_cases hg : c.g = []
    · simp [hg]
    · rw [if_neg hg, mget_del]; simp [hg]

theorem put_ct (fb : List Nat) (nb : Nat) (m : Nms) (c : Chg) (w0 : World) (H0 : Heap)
    (hm : Mp H0 Str (fvl fb) nb m) :
    Ct Tryd.prog w0 44 #[.map (some nb), .agg (fC fb c).toArray] H0 (fun r H2 => (Mp H2 Str (fvl fb) nb (Chg.apM c m)) ∧ Mo (Ms [(nb + 1)]) H0 H2) := by
  refine Ct.enter (args := [.map (some nb), .agg (fC fb c).toArray]) Tryd.func44 rfl rfl rfl ?_
  intro Q0 hret
  have hm0 : Mo (Ms [(nb + 1)]) H0 H0 := Mo.refl _ _
  have nx_hm0_hm := Nx.refl (nb + 1) H0.size
  have hlt_hm := hm.lt
  refine CW.seq (fun K1 hK1 hE1 => ?_)
  refine CW.region ?_
  refine LR.z (Z.boxv rfl rfl) (Wd.u rfl) rfl rfl (fun v3 H3 r3 => ?_)
  obtain ⟨rfl, vc, hs3, ob3, hH3⟩ := r3
  have hzs3 : H3.size = H0.size + 1 := by rw [hH3]; simp
  have dj1 : Dj (nb + 1) (H0.size + 1) := Dj.new hm.lt
  have nx2 : Nx 0 H0.size (H0.size + 1) := Nx.new hm0.size
  replace hm := hm.nw hs3
  replace hm0 := hm0.trN hs3
  have hz1 := hs3.size
  replace vc : Var 96 H3 H0.size (fC fb c) := vc
  refine LR.nil ?_
  refine hK1 _ _ ?_
  refine CW.cut (fun (m1 : (Nms)) => [(0, .map (some nb)), (3, .pointer (some ⟨H0.size, 0, none⟩))])
    (fun (m1 : (Nms)) (H : Heap) => (Mp H Str (fvl fb) nb m1) ∧ (m1 = if c.g = [] then m else mdel m c.g) ∧ Mo (Ms [(nb + 1)]) H3 H) (fun K2 hK2 hE2 => ?_) ?_
  ·
    have hcm2 : Mo (Ms [(nb + 1)]) H3 H3 := Mo.refl _ _
    have nx_hcm2_hm := Nx.refl (nb + 1) H3.size
    refine CW.seq (fun K3 hK3 hE3 => ?_)
    refine CW.region ?_
    refine LR.v (Y.fieldAddr vc.pt rfl Tryd.runUnderlying96 rfl rfl Tryd.sizeOf9 (by decide) rfl) (Wd.u rfl) rfl rfl ?_
    refine LR.v (Y.load1 vc.pt rfl Tryd.isAgg9 rfl) (Wd.u rfl) rfl rfl ?_
    refine LR.v (Y.sneq rfl rfl rfl) (Wd.u rfl) rfl rfl ?_
    refine LR.nil ?_
    refine hK3 _ _ ?_
    refine CW.condp rfl (fun c6 => ?_) (fun c6 => ?_)
    ·
      refine CW.region ?_
      refine LR.v (Y.move rfl rfl) (Wd.u rfl) rfl rfl ?_
      refine LR.v (Y.fieldAddr vc.pt rfl Tryd.runUnderlying96 rfl rfl Tryd.sizeOf9 (by decide) rfl) (Wd.u rfl) rfl rfl ?_
      refine LR.v (Y.load1 vc.pt rfl Tryd.isAgg9 rfl) (Wd.u rfl) rfl rfl ?_
      refine LR.zn (Z.delS hm keyStr rfl Tryd.runUnderlying79 Tryd.underlying9 rfl rfl) (Wd.u rfl) rfl (fun v2_3 H2_3 r2_3 => ?_)
      obtain ⟨rfl, hm, hs2_3⟩ := r2_3
      replace hs2_3 := hs2_3.md1
      replace vc := vc.upL hs2_3 (DL.cons dj1.symm DL.nil)
      replace hm0 := hm0.trL hs2_3 (MIL.cons (MI.app (MI.root (by simp)) (nx_hm0_hm) (Nat.le_refl _)) MIL.nil)
      replace hcm2 := hcm2.trL hs2_3 (MIL.cons (MI.app (MI.root (by simp)) (nx_hcm2_hm) (Nat.le_refl _)) MIL.nil)
      have hz2 := hs2_3.size
      refine LR.nil ?_
      refine QN.sub (hK2 (mdel m c.g) _ ?_) ⟨rfl, rfl, trivial⟩
      exact ⟨hm, by rw [if_neg (by simpa using c6)], hcm2⟩
    ·
      refine CW.skip ?_
      refine QN.sub (hK2 m _ ?_) ⟨rfl, rfl, trivial⟩
      exact ⟨hm, by rw [if_pos (by simpa using c6)], hcm2⟩
  ·
    intro m1 Hcutc6 hIcutc6
    obtain ⟨hm, hm1, hlmcutc6⟩ := hIcutc6
    replace vc := vc.upL hlmcutc6 (DL.cons dj1.symm DL.nil)
    replace hm0 := hm0.trL hlmcutc6 (MIL.cons (MI.app (MI.root (by simp)) (nx_hm0_hm) (Nat.le_refl _)) MIL.nil)
    have hz3 := hlmcutc6.size
    have nx_hlmcutc6_hm := Nx.refl (nb + 1) H3.size
    refine CW.seq (fun K4 hK4 hE4 => ?_)
    refine CW.region ?_
    refine LR.v (Y.fieldAddr vc.pt rfl Tryd.runUnderlying96 rfl rfl Tryd.sizeOf68 (by decide) rfl) (Wd.u rfl) rfl rfl ?_
    refine LR.v (Y.load1 (vc.pt.drop 2) rfl Tryd.isAgg68 rfl) (Wd.u rfl) rfl rfl ?_
    refine LR.v (Y.pne rfl (by kernel_rfl) (by kernel_rfl) rfl rfl) (Wd.u rfl) rfl rfl ?_
    refine LR.nil ?_
    refine hK4 _ _ ?_
    refine CW.cond rfl (fun c12 => ?_) (fun c12 => ?_)
    ·
      obtain ⟨i, hci⟩ : ∃ i, c.f = some i := by
        cases hcf : c.f with
        | none => rw [hcf] at c12; cases c12
        | some i => exact ⟨i, rfl⟩
      refine CW.region ?_
      refine LR.v (Y.move rfl rfl) (Wd.u rfl) rfl rfl ?_
      refine LR.v (Y.fieldAddr vc.pt rfl Tryd.runUnderlying96 rfl rfl Tryd.sizeOf9 (by decide) rfl) (Wd.u rfl) rfl rfl ?_
      refine LR.v (Y.load1 (vc.pt.drop 1) rfl Tryd.isAgg9 rfl) (Wd.u rfl) rfl rfl ?_
      refine LR.v (Y.fieldAddr vc.pt rfl Tryd.runUnderlying96 rfl rfl Tryd.sizeOf68 (by decide) rfl) (Wd.u rfl) rfl rfl ?_
      refine LR.v (Y.cast (v2 := fvl fb i) (Y.load1 (vc.pt.drop 2) rfl Tryd.isAgg68 rfl) (by rw [hci]; rfl)) (Wd.u rfl) rfl rfl ?_
      refine LR.s (S.putMp (i) hm keyStr rfl Tryd.runUnderlying79 Tryd.underlying9 rfl rfl rfl) (Wd.u rfl) rfl (fun H4_5 r4_5 => ?_)
      obtain ⟨hm, hs4_5⟩ := r4_5
      replace hs4_5 := hs4_5.md1
      replace vc := vc.upL hs4_5 (DL.cons dj1.symm DL.nil)
      replace hm0 := hm0.trL hs4_5 (MIL.cons (MI.app (MI.root (by simp)) (nx_hm0_hm) (Nat.le_refl _)) MIL.nil)
      have hz4 := hs4_5.size
      refine LR.nil ?_
      refine hret .normal (.inl rfl) _ _ _ (res0 rfl) ?_
      exact ⟨by rw [Chg.apM, ← hm1, hci]; exact hm, hm0⟩
    ·
      refine CW.skip ?_
      refine hret .normal (.inl rfl) _ _ _ (res0 rfl) ?_
      exact ⟨by
        have h9 : c.f = none := by
          cases hcf : c.f with
          | none => rfl
          | some i => rw [hcf] at c12; cases c12
        rw [Chg.apM, ← hm1, h9]; exact hm, hm0⟩

theorem add_ct (e : TypeId) (b : Nat) (cs : List Value) (x y : Int) (w0 : World) (H0 : Heap)
    (hv : Var e H0 b cs) (hc : cs[3]? = some (.int .i64 x)) (hxy : -9223372036854775808 ≤ x + y ∧ x + y ≤ 9223372036854775807) :
    Ct Tryd.prog w0 61 #[.pointer (some ⟨b, 3, none⟩), .int .i64 y] H0 (fun r H2 => r = .int .i64 (x + y) ∧ (Var e H2 b (cs.set 3 (.int .i64 (x + y)))) ∧ Mo (Ms [(b + 1)]) H0 H2) := by
  refine Ct.enter (args := [.pointer (some ⟨b, 3, none⟩), .int .i64 y]) Tryd.func61 rfl rfl rfl ?_
  intro Q0 hret
  have hm0 : Mo (Ms [(b + 1)]) H0 H0 := Mo.refl _ _
  have nx_hm0_hv := Nx.refl (b + 1) H0.size
  have hlt_hv := hv.lt
  refine CW.seq (fun K1 hK1 hE1 => ?_)
  refine CW.region ?_
  refine LR.v (Y.assign rfl rfl) (Wd.u rfl) rfl rfl ?_
  refine LR.nil ?_
  refine hK1 _ _ ?_
  refine CW.seq (fun K2 hK2 hE2 => ?_)
  refine CW.region ?_
  refine LR.v (Y.move rfl rfl) (Wd.u rfl) rfl rfl ?_
  refine LR.v (Y.nilCheck rfl rfl) (Wd.u rfl) rfl rfl ?_
  refine LR.v (Y.fieldAddr (hv.pt.drop 3) rfl Tryd.runUnderlying62 rfl rfl Tryd.sizeOf2 (by decide) rfl) (Wd.u rfl) rfl rfl ?_
  refine LR.v (Y.move rfl rfl) (Wd.u rfl) rfl rfl ?_
  refine LR.z (Z.add64 hv hc rfl Tryd.func77 (by kernel_rfl) (by kernel_rfl) (by kernel_rfl) (by kernel_rfl) rfl hxy) (Wd.u rfl) rfl rfl (fun v9 H9 r9 => ?_)
  obtain ⟨rfl, hv, hs9⟩ := r9
  replace hs9 := hs9.md1
  replace hm0 := hm0.trL hs9 (MIL.cons (MI.app (MI.root (by simp)) (nx_hm0_hv) (Nat.le_refl _)) MIL.nil)
  have hz1 := hs9.size
  refine LR.v (Y.assign rfl rfl) (Wd.u rfl) rfl rfl ?_
  refine LR.nil ?_
  refine hK2 _ _ ?_
  refine CW.ret (hret .ret (.inr rfl) _ _ _ (res1 rfl rfl) ?_)
  exact ⟨rfl, hv, hm0⟩

theorem load_ct (e : TypeId) (b : Nat) (cs : List Value) (x : Int) (w0 : World) (H0 : Heap)
    (hv : Var e H0 b cs) (hc : cs[3]? = some (.int .i64 x)) :
    Ct Tryd.prog w0 49 #[.pointer (some ⟨b, 3, none⟩)] H0 (fun r H2 => r = .int .i64 x ∧ Nw H0 H2) := by
  refine Ct.enter (args := [.pointer (some ⟨b, 3, none⟩)]) Tryd.func49 rfl rfl rfl ?_
  intro Q0 hret
  have hm0 : Nw H0 H0 := Mo.refl _ _
  have nx_hm0_hv := Nx.refl (b + 1) H0.size
  have hlt_hv := hv.lt
  refine CW.seq (fun K1 hK1 hE1 => ?_)
  refine CW.region ?_
  refine LR.v (Y.assign rfl rfl) (Wd.u rfl) rfl rfl ?_
  refine LR.nil ?_
  refine hK1 _ _ ?_
  refine CW.seq (fun K2 hK2 hE2 => ?_)
  refine CW.region ?_
  refine LR.v (Y.move rfl rfl) (Wd.u rfl) rfl rfl ?_
  refine LR.v (Y.nilCheck rfl rfl) (Wd.u rfl) rfl rfl ?_
  refine LR.v (Y.fieldAddr (hv.pt.drop 3) rfl Tryd.runUnderlying62 rfl rfl Tryd.sizeOf2 (by decide) rfl) (Wd.u rfl) rfl rfl ?_
  refine LR.v (Y.load64 hv hc rfl Tryd.func69 (by kernel_rfl) (by kernel_rfl) (by kernel_rfl) (by kernel_rfl) rfl) (Wd.u rfl) rfl rfl ?_
  refine LR.v (Y.assign rfl rfl) (Wd.u rfl) rfl rfl ?_
  refine LR.nil ?_
  refine hK2 _ _ ?_
  refine CW.ret (hret .ret (.inr rfl) _ _ _ (res1 rfl rfl) ?_)
  exact ⟨rfl, hm0⟩


section
variable {w0 : World} {n : Nat} {l : FL} {H : Heap} {o : Oper} {K : List Nat} {g : Gh} {b lv : Nat} {D : Dk} {x y : Operand} {t : TypeId}
theorem pd_left (h : PDk K g H b D) (lv : Nat) (ho : o.op = .store t x y) (hx : opv l x = some (.pointer (some ⟨b, 4, none⟩))) (hy : opv l y = some (.int .i64 (lv : Int))) (hs : ∀ w, (sizeOf t).run Tryd.prog w = .ok 1 w) (hl : lv ≤ 9223372036854775807) :
    S Tryd.prog w0 n l H o (fun H' => PDk K { g with lv := lv } H' b { D with left := lv } ∧ Mo (Ms K) H H') :=
  (S.var1 h.vb 4 _ ho hx hy rfl hs (by simp) rfl).mono fun H' ⟨h1, h2⟩ => ⟨h.setFs h2.md1 ⟨rfl, rfl, rfl, rfl⟩ h1 (fun _ => rfl) hl ⟨rfl, rfl, rfl, rfl, rfl, rfl⟩ (Nat.le_refl _), h.ms h2 (fun c e => by rw [e, h.rb]; simp)⟩
theorem pd_dead (h : PDk K g H b D) (dd : Bool) (hdd : dd = false → D.dead = false) (ho : o.op = .store t x y) (hx : opv l x = some (.pointer (some ⟨b, 5, none⟩))) (hy : opv l y = some (.bool dd)) (hs : ∀ w, (sizeOf t).run Tryd.prog w = .ok 1 w) :
    S Tryd.prog w0 n l H o (fun H' => PDk K g H' b { D with dead := dd } ∧ Mo (Ms K) H H') :=
  (S.var1 h.vb 5 _ ho hx hy rfl hs (by simp) rfl).mono fun H' ⟨h1, h2⟩ => ⟨h.setFs h2.md1 ⟨rfl, rfl, rfl, rfl⟩ h1 (fun e => h.lvD (hdd e)) h.lvB ⟨rfl, rfl, rfl, rfl, rfl, rfl⟩ (Nat.le_refl _), h.ms h2 (fun c e => by rw [e, h.rb]; simp)⟩
/-- a disk that is dead: it does not matter when it was to stop -/
theorem pd_leftany (h : PDk K g H b D) (hd : D.dead = true) (x : Nat) : PDk K g H b { D with left := x } :=
  { h with
    lvD := fun e => (by rw [show ({ D with left := x } : Dk).dead = D.dead from rfl, hd] at e; cases e)
    dirs := fun p db e => (by
      obtain ⟨nb, sb, k, sv, nm, sm, q⟩ := h.dirs p db e
      exact ⟨nb, sb, k, sv, nm, sm, { q with en := q.en, es := q.es, hc := q.hc }⟩) }
theorem begin_F {dd : Bool} {x : Nat} (hl : D.dead = false → lv = D.left) (h : PDk K g H b { D with left := x, dead := dd }) (hdd : dd = true) (hcase : D.dead = true ∨ (D.dead = false ∧ lv = 1 ∧ x = 0)) : PDk K g H b D.begin.2 ∧ .bool false = Value.bool D.begin.1 := by
  subst hdd
  rcases hcase with hd | ⟨hd, h1, h2⟩
  · have e : D.begin = (false, D) := by unfold Dk.begin; rw [if_pos hd]
    rw [e]
    refine ⟨?_, rfl⟩
    have := pd_leftany h rfl D.left
    obtain ⟨cap, most, fs, now, stays, log, ops, left, dead⟩ := D
    simp only at hd
    subst hd
    exact this
  · have := hl hd
    have e : D.begin = (false, { D with left := 0, dead := true }) := by unfold Dk.begin; rw [if_neg (by simp [hd]), if_pos (by omega)]
    rw [e]
    subst h2
    exact ⟨h, rfl⟩
theorem begin_T {dd : Bool} {x : Nat} (h : PDk K g H b { D with left := x, dead := dd, ops := D.ops + 1 }) (hdd : dd = false) (hd : D.dead = false) (h1 : D.left ≠ 1) (hx : x = D.left - 1) : PDk K g H b D.begin.2 ∧ .bool true = Value.bool D.begin.1 := by
  subst hdd; subst hx
  have e : D.begin = (true, { D with left := D.left - 1, ops := D.ops + 1 }) := by unfold Dk.begin; rw [if_neg (by simp [hd]), if_neg h1]
  rw [e]
  obtain ⟨cap, most, fs, now, stays, log, ops, left, dead⟩ := D
  simp only at hd
  subst hd
  exact ⟨h, rfl⟩
end
theorem addD_ct {K : List Nat} {g : Gh} {b : Nat} {D : Dk} (w0 : World) (H0 : Heap) (h : PDk K g H0 b D) (ho : D.ops ≤ 1099511627776) : Ct Tryd.prog w0 61 #[.pointer (some ⟨b, 3, none⟩), .int .i64 1] H0 (fun r H2 => r = .int .i64 ((D.ops : Int) + 1) ∧ PDk K g H2 b { D with ops := D.ops + 1 } ∧ Mo (Ms K) H0 H2) :=
  (add_ct _ b _ (D.ops : Int) 1 w0 H0 h.vb rfl (by omega)).mono fun r H2 ⟨h1, h2, h3⟩ => ⟨h1, h.setFs h3 ⟨rfl, rfl, rfl, rfl⟩ h2 h.lvD h.lvB ⟨rfl, rfl, rfl, rfl, rfl, rfl⟩ (Nat.le_succ _), h.ms h3 (fun c e => by
    have : c = b := by simpa [Ms] using e
    rw [this, h.rb]; simp)⟩

theorem begin_ct (K : List Nat) (g : Gh) (b : Nat) (D : Dk) (w0 : World) (H0 : Heap)
    (hf : PDk K g H0 b D) (ho : D.ops ≤ 1099511627776) :
    Ct Tryd.prog w0 38 #[ptr b] H0 (fun r H2 => ∃ g2 : Gh, r = .bool D.begin.1 ∧ (PDk K g2 H2 b D.begin.2) ∧ (g2.ρ = g.ρ ∧ g2.fb = g.fb ∧ g2.mb = g.mb ∧ g2.dm = g.dm) ∧ Mo (Ms K) H0 H2) := by
  refine Ct.enter (args := [ptr b]) Tryd.func38 rfl rfl rfl ?_
  intro Q0 hret
  have hm0 : Mo (Ms K) H0 H0 := Mo.refl _ _
  have nx_hm0_hf := NxK.refl K H0.size
  have hbk_hf := hf.bk
  have hlb := hf.lvB
  have hld := hf.lvD
  refine CW.seq (fun K1 hK1 hE1 => ?_)
  refine CW.region ?_
  refine LR.v (Y.assign rfl rfl) (Wd.u rfl) rfl rfl ?_
  refine LR.nil ?_
  refine hK1 _ _ ?_
  refine CW.seq (fun K2 hK2 hE2 => ?_)
  refine CW.seq (fun K3 hK3 hE3 => ?_)
  refine CW.region ?_
  refine LR.v (Y.move rfl rfl) (Wd.u rfl) rfl rfl ?_
  refine LR.v (Y.nilCheck rfl rfl) (Wd.u rfl) rfl rfl ?_
  refine LR.v (Y.fieldAddr hf.vb.pt rfl Tryd.runUnderlying64 rfl rfl Tryd.sizeOf3 (by decide) rfl) (Wd.u rfl) rfl rfl ?_
  refine LR.v (Y.load1 (hf.vb.pt.drop 4) rfl Tryd.isAgg3 rfl) (Wd.u rfl) rfl rfl ?_
  refine LR.v (Y.gtr rfl rfl rfl) (Wd.u rfl) rfl rfl ?_
  refine LR.nil ?_
  refine hK3 _ _ ?_
  refine CW.condp rfl (fun c7 => ?_) (fun c7 => ?_)
  ·
    refine CW.seq (fun K4 hK4 hE4 => ?_)
    refine CW.region ?_
    refine LR.v (Y.move rfl rfl) (Wd.u rfl) rfl rfl ?_
    refine LR.v (Y.nilCheck rfl rfl) (Wd.u rfl) rfl rfl ?_
    refine LR.v (Y.fieldAddr hf.vb.pt rfl Tryd.runUnderlying64 rfl rfl Tryd.sizeOf3 (by decide) rfl) (Wd.u rfl) rfl rfl ?_
    refine LR.v (Y.load1 (hf.vb.pt.drop 4) rfl Tryd.isAgg3 rfl) (Wd.u rfl) rfl rfl ?_
    refine LR.v (Y.cast (v2 := .int .i64 ((g.lv - 1 : Nat) : Int)) (Y.subi rfl rfl rfl (by omega)) (ivv (by omega))) (Wd.u rfl) rfl rfl ?_
    refine LR.v (Y.nilCheck rfl rfl) (Wd.u rfl) rfl rfl ?_
    refine LR.v (Y.fieldAddr hf.vb.pt rfl Tryd.runUnderlying64 rfl rfl Tryd.sizeOf3 (by decide) rfl) (Wd.u rfl) rfl rfl ?_
    refine LR.s (pd_left hf (g.lv - 1) rfl rfl rfl Tryd.sizeOf3 (by omega)) (Wd.u rfl) rfl (fun H2_7 r2_7 => ?_)
    obtain ⟨hf, hs2_7⟩ := r2_7
    replace hm0 := hm0.trL hs2_7 (MIL.ofK (nx_hm0_hf) (by intro k hk; simp [hk]))
    have hz1 := hs2_7.size
    have hbk_hf := hf.bk
    refine LR.nil ?_
    refine hK4 _ _ ?_
    refine CW.region ?_
    refine LR.v (Y.move rfl rfl) (Wd.u rfl) rfl rfl ?_
    refine LR.v (Y.move rfl rfl) (Wd.u rfl) rfl rfl ?_
    refine LR.v (Y.nilCheck rfl rfl) (Wd.u rfl) rfl rfl ?_
    refine LR.v (Y.fieldAddr hf.vb.pt rfl Tryd.runUnderlying64 rfl rfl Tryd.sizeOf4 (by decide) rfl) (Wd.u rfl) rfl rfl ?_
    refine LR.v (Y.load1 (hf.vb.pt.drop 5) rfl Tryd.isAgg4 rfl) (Wd.u rfl) rfl rfl ?_
    refine LR.v (Y.move rfl rfl) (Wd.u rfl) rfl rfl ?_
    refine LR.split (d := 20) rfl (fun g20 => ?_) (fun g20 => ?_)
    ·
      refine LR.gs rfl rfl rfl rfl rfl rfl ?_
      refine LR.gs rfl rfl rfl rfl rfl rfl ?_
      refine LR.gs rfl rfl rfl rfl rfl rfl ?_
      refine LR.gs rfl rfl rfl rfl rfl rfl ?_
      refine LR.gs rfl rfl rfl rfl rfl rfl ?_
      refine LR.v (Y.pick_t rfl rfl rfl) (Wd.u rfl) rfl rfl ?_
      refine LR.v (Y.nilCheck rfl rfl) (Wd.u rfl) rfl rfl ?_
      refine LR.v (Y.fieldAddr hf.vb.pt rfl Tryd.runUnderlying64 rfl rfl Tryd.sizeOf4 (by decide) rfl) (Wd.u rfl) rfl rfl ?_
      refine LR.s (pd_dead hf _ (by intro h; first | exact g20 | cases h) rfl rfl rfl Tryd.sizeOf4) (Wd.u rfl) rfl (fun H3_14 r3_14 => ?_)
      obtain ⟨hf, hs3_14⟩ := r3_14
      replace hm0 := hm0.trL hs3_14 (MIL.ofK (nx_hm0_hf) (by intro k hk; simp [hk]))
      have hz2 := hs3_14.size
      have hbk_hf := hf.bk
      refine LR.nil ?_
      refine hK2 _ _ ?_
      refine CW.seq (fun K5 hK5 hE5 => ?_)
      refine CW.seq (fun K6 hK6 hE6 => ?_)
      refine CW.region ?_
      refine LR.v (Y.move rfl rfl) (Wd.u rfl) rfl rfl ?_
      refine LR.v (Y.nilCheck rfl rfl) (Wd.u rfl) rfl rfl ?_
      refine LR.v (Y.fieldAddr hf.vb.pt rfl Tryd.runUnderlying64 rfl rfl Tryd.sizeOf4 (by decide) rfl) (Wd.u rfl) rfl rfl ?_
      refine LR.v (Y.load1 (hf.vb.pt.drop 5) rfl Tryd.isAgg4 rfl) (Wd.u rfl) rfl rfl ?_
      refine LR.nil ?_
      refine hK6 _ _ ?_
      refine CW.cond rfl (fun c32 => ?_) (fun c32 => ?_)
      ·
        first
        | (simp at c32; done)
        | skip
          refine CW.seq (fun K7 hK7 hE7 => ?_)
          refine CW.region ?_
          refine LR.v (Y.assign rfl rfl) (Wd.u rfl) rfl rfl ?_
          refine LR.nil ?_
          refine hK7 _ _ ?_
          refine CW.ret (hE5 .ret nofun _ _ (hret .ret (.inr rfl) _ _ _ (res1 rfl rfl) ?_))
          have hq := begin_F hld hf (by first | rfl | exact c32) (by first | exact .inl g20 | exact .inr ⟨g20, by simp at c32; omega, by simp at c32; omega⟩)
          exact ⟨_, hq.2, hq.1, ⟨rfl, rfl, rfl, rfl⟩, hm0⟩
      ·
        first
        | (simp at c32; done)
        | skip
          refine CW.skip ?_
          refine hK5 _ _ ?_
          refine CW.seq (fun K8 hK8 hE8 => ?_)
          refine CW.region ?_
          refine LR.v (Y.move rfl rfl) (Wd.u rfl) rfl rfl ?_
          refine LR.v (Y.nilCheck rfl rfl) (Wd.u rfl) rfl rfl ?_
          refine LR.v (Y.fieldAddr hf.vb.pt rfl Tryd.runUnderlying64 rfl rfl Tryd.sizeOf62 (by decide) rfl) (Wd.u rfl) rfl rfl ?_
          -- call (*sync/atomic.Int64).Add
          refine LR.call rfl Tryd.call61 rfl (Wd.u rfl) rfl rfl (addD_ct w0 _ hf ho) (fun v36 H36 r36 => ?_)
          obtain ⟨rfl, hf, hs36⟩ := r36
          replace hm0 := hm0.trL hs36 (MIL.ofK (nx_hm0_hf) (by intro k hk; simp [hk]))
          have hz3 := hs36.size
          refine LR.nil ?_
          refine hK8 _ _ ?_
          refine CW.seq (fun K9 hK9 hE9 => ?_)
          refine CW.region ?_
          refine LR.v (Y.assign rfl rfl) (Wd.u rfl) rfl rfl ?_
          refine LR.nil ?_
          refine hK9 _ _ ?_
          refine CW.ret (hret .ret (.inr rfl) _ _ _ (res1 rfl rfl) ?_)
          obtain ⟨g2, hq⟩ : ∃ g2 : Gh, (PDk K g2 H36 b D.begin.2 ∧ .bool true = Value.bool D.begin.1) ∧ (g2.ρ = g.ρ ∧ g2.fb = g.fb ∧ g2.mb = g.mb ∧ g2.dm = g.dm) := by
            first
            | exact ⟨_, begin_T (x := g.lv - 1) hf (by simpa using c32) g20 (by have := hld g20; simp at c32; omega) (by have := hld g20; omega), rfl, rfl, rfl, rfl⟩
            | exact ⟨_, begin_T (x := D.left) (dd := D.dead) hf (by simpa using c32) (by simpa using c32) (by have := hld (by simpa using c32); omega) (by have := hld (by simpa using c32); omega), rfl, rfl, rfl, rfl⟩
          exact ⟨g2, hq.1.2, hq.1.1, hq.2, hm0⟩
    ·
      refine LR.v (Y.move rfl rfl) (Wd.g rfl rfl rfl) rfl rfl ?_
      refine LR.v (Y.nilCheck rfl rfl) (Wd.g rfl rfl rfl) rfl rfl ?_
      refine LR.v (Y.fieldAddr hf.vb.pt rfl Tryd.runUnderlying64 rfl rfl Tryd.sizeOf3 (by decide) rfl) (Wd.g rfl rfl rfl) rfl rfl ?_
      refine LR.v (Y.load1 (hf.vb.pt.drop 4) rfl Tryd.isAgg3 rfl) (Wd.g rfl rfl rfl) rfl rfl ?_
      refine LR.v (Y.eql rfl rfl rfl) (Wd.g rfl rfl rfl) rfl rfl ?_
      refine LR.v (Y.pick_f rfl rfl rfl) (Wd.u rfl) rfl rfl ?_
      refine LR.v (Y.nilCheck rfl rfl) (Wd.u rfl) rfl rfl ?_
      refine LR.v (Y.fieldAddr hf.vb.pt rfl Tryd.runUnderlying64 rfl rfl Tryd.sizeOf4 (by decide) rfl) (Wd.u rfl) rfl rfl ?_
      refine LR.s (pd_dead hf _ (by intro h; first | exact g20 | cases h) rfl rfl rfl Tryd.sizeOf4) (Wd.u rfl) rfl (fun H3_14 r3_14 => ?_)
      obtain ⟨hf, hs3_14⟩ := r3_14
      replace hm0 := hm0.trL hs3_14 (MIL.ofK (nx_hm0_hf) (by intro k hk; simp [hk]))
      have hz4 := hs3_14.size
      have hbk_hf := hf.bk
      refine LR.nil ?_
      refine hK2 _ _ ?_
      refine CW.seq (fun K10 hK10 hE10 => ?_)
      refine CW.seq (fun K11 hK11 hE11 => ?_)
      refine CW.region ?_
      refine LR.v (Y.move rfl rfl) (Wd.u rfl) rfl rfl ?_
      refine LR.v (Y.nilCheck rfl rfl) (Wd.u rfl) rfl rfl ?_
      refine LR.v (Y.fieldAddr hf.vb.pt rfl Tryd.runUnderlying64 rfl rfl Tryd.sizeOf4 (by decide) rfl) (Wd.u rfl) rfl rfl ?_
      refine LR.v (Y.load1 (hf.vb.pt.drop 5) rfl Tryd.isAgg4 rfl) (Wd.u rfl) rfl rfl ?_
      refine LR.nil ?_
      refine hK11 _ _ ?_
      refine CW.cond rfl (fun c32 => ?_) (fun c32 => ?_)
      ·
        first
        | (simp at c32; done)
        | skip
          refine CW.seq (fun K12 hK12 hE12 => ?_)
          refine CW.region ?_
          refine LR.v (Y.assign rfl rfl) (Wd.u rfl) rfl rfl ?_
          refine LR.nil ?_
          refine hK12 _ _ ?_
          refine CW.ret (hE10 .ret nofun _ _ (hret .ret (.inr rfl) _ _ _ (res1 rfl rfl) ?_))
          have hq := begin_F hld hf (by first | rfl | exact c32) (by first | exact .inl g20 | exact .inr ⟨g20, by simp at c32; omega, by simp at c32; omega⟩)
          exact ⟨_, hq.2, hq.1, ⟨rfl, rfl, rfl, rfl⟩, hm0⟩
      ·
        first
        | (simp at c32; done)
        | skip
          refine CW.skip ?_
          refine hK10 _ _ ?_
          refine CW.seq (fun K13 hK13 hE13 => ?_)
          refine CW.region ?_
          refine LR.v (Y.move rfl rfl) (Wd.u rfl) rfl rfl ?_
          refine LR.v (Y.nilCheck rfl rfl) (Wd.u rfl) rfl rfl ?_
          refine LR.v (Y.fieldAddr hf.vb.pt rfl Tryd.runUnderlying64 rfl rfl Tryd.sizeOf62 (by decide) rfl) (Wd.u rfl) rfl rfl ?_
          -- call (*sync/atomic.Int64).Add
          refine LR.call rfl Tryd.call61 rfl (Wd.u rfl) rfl rfl (addD_ct w0 _ hf ho) (fun v36 H36 r36 => ?_)
          obtain ⟨rfl, hf, hs36⟩ := r36
          replace hm0 := hm0.trL hs36 (MIL.ofK (nx_hm0_hf) (by intro k hk; simp [hk]))
          have hz5 := hs36.size
          refine LR.nil ?_
          refine hK13 _ _ ?_
          refine CW.seq (fun K14 hK14 hE14 => ?_)
          refine CW.region ?_
          refine LR.v (Y.assign rfl rfl) (Wd.u rfl) rfl rfl ?_
          refine LR.nil ?_
          refine hK14 _ _ ?_
          refine CW.ret (hret .ret (.inr rfl) _ _ _ (res1 rfl rfl) ?_)
          obtain ⟨g2, hq⟩ : ∃ g2 : Gh, (PDk K g2 H36 b D.begin.2 ∧ .bool true = Value.bool D.begin.1) ∧ (g2.ρ = g.ρ ∧ g2.fb = g.fb ∧ g2.mb = g.mb ∧ g2.dm = g.dm) := by
            first
            | exact ⟨_, begin_T (x := g.lv - 1) hf (by simpa using c32) g20 (by have := hld g20; simp at c32; omega) (by have := hld g20; omega), rfl, rfl, rfl, rfl⟩
            | exact ⟨_, begin_T (x := D.left) (dd := D.dead) hf (by simpa using c32) (by simpa using c32) (by have := hld (by simpa using c32); omega) (by have := hld (by simpa using c32); omega), rfl, rfl, rfl, rfl⟩
          exact ⟨g2, hq.1.2, hq.1.1, hq.2, hm0⟩
  ·
    refine CW.skip ?_
    refine hK2 _ _ ?_
    refine CW.seq (fun K15 hK15 hE15 => ?_)
    refine CW.seq (fun K16 hK16 hE16 => ?_)
    refine CW.region ?_
    refine LR.v (Y.move rfl rfl) (Wd.u rfl) rfl rfl ?_
    refine LR.v (Y.nilCheck rfl rfl) (Wd.u rfl) rfl rfl ?_
    refine LR.v (Y.fieldAddr hf.vb.pt rfl Tryd.runUnderlying64 rfl rfl Tryd.sizeOf4 (by decide) rfl) (Wd.u rfl) rfl rfl ?_
    refine LR.v (Y.load1 (hf.vb.pt.drop 5) rfl Tryd.isAgg4 rfl) (Wd.u rfl) rfl rfl ?_
    refine LR.nil ?_
    refine hK16 _ _ ?_
    refine CW.cond rfl (fun c32 => ?_) (fun c32 => ?_)
    ·
      first
      | (simp at c32; done)
      | skip
        refine CW.seq (fun K17 hK17 hE17 => ?_)
        refine CW.region ?_
        refine LR.v (Y.assign rfl rfl) (Wd.u rfl) rfl rfl ?_
        refine LR.nil ?_
        refine hK17 _ _ ?_
        refine CW.ret (hE15 .ret nofun _ _ (hret .ret (.inr rfl) _ _ _ (res1 rfl rfl) ?_))
        have hq := begin_F (x := D.left) (dd := D.dead) hld hf (by simpa using c32) (.inl (by simpa using c32))
        exact ⟨_, hq.2, hq.1, ⟨rfl, rfl, rfl, rfl⟩, hm0⟩
    ·
      first
      | (simp at c32; done)
      | skip
        refine CW.skip ?_
        refine hK15 _ _ ?_
        refine CW.seq (fun K18 hK18 hE18 => ?_)
        refine CW.region ?_
        refine LR.v (Y.move rfl rfl) (Wd.u rfl) rfl rfl ?_
        refine LR.v (Y.nilCheck rfl rfl) (Wd.u rfl) rfl rfl ?_
        refine LR.v (Y.fieldAddr hf.vb.pt rfl Tryd.runUnderlying64 rfl rfl Tryd.sizeOf62 (by decide) rfl) (Wd.u rfl) rfl rfl ?_
        -- call (*sync/atomic.Int64).Add
        refine LR.call rfl Tryd.call61 rfl (Wd.u rfl) rfl rfl (addD_ct w0 _ hf ho) (fun v36 H36 r36 => ?_)
        obtain ⟨rfl, hf, hs36⟩ := r36
        replace hm0 := hm0.trL hs36 (MIL.ofK (nx_hm0_hf) (by intro k hk; simp [hk]))
        have hz6 := hs36.size
        refine LR.nil ?_
        refine hK18 _ _ ?_
        refine CW.seq (fun K19 hK19 hE19 => ?_)
        refine CW.region ?_
        refine LR.v (Y.assign rfl rfl) (Wd.u rfl) rfl rfl ?_
        refine LR.nil ?_
        refine hK19 _ _ ?_
        refine CW.ret (hret .ret (.inr rfl) _ _ _ (res1 rfl rfl) ?_)
        obtain ⟨g2, hq⟩ : ∃ g2 : Gh, (PDk K g2 H36 b D.begin.2 ∧ .bool true = Value.bool D.begin.1) ∧ (g2.ρ = g.ρ ∧ g2.fb = g.fb ∧ g2.mb = g.mb ∧ g2.dm = g.dm) := by
          first
          | exact ⟨_, begin_T (x := g.lv - 1) hf (by simpa using c32) g20 (by have := hld g20; simp at c32; omega) (by have := hld g20; omega), rfl, rfl, rfl, rfl⟩
          | exact ⟨_, begin_T (x := D.left) (dd := D.dead) hf (by simpa using c32) (by simpa using c32) (by have := hld (by simpa using c32); omega) (by have := hld (by simpa using c32); omega), rfl, rfl, rfl, rfl⟩
        exact ⟨g2, hq.1.2, hq.1.1, hq.2, hm0⟩


section
open Go.MapKept
variable {P : Program} {w0 : World} {n : Nat} {l : FL} {H : Heap} {o : Oper} {κ β : Type} [DecidableEq κ] {G : Nat → Prop} {fk : κ → Value} {fv : β → Value} {v : Value} {m : List (κ × β)} {d : TypeDesc}
/-- a map of pointers, asked for a key -/
theorem look_p {t kt et : TypeId} {x i : Operand} {k : κ} (ad : β → Addr) (h : MapOf G H fk fv v m) (hfv : ∀ b, fv b = .pointer (some (ad b))) (hfk : KeyFn d fk) (ho : o.op = .lookup t x i false) (hm : ∀ w, (underlying t).run P w = .ok (.map kt et) w) (hk : P.underlying kt = some d) (hz : ∀ w, (zeroValue et).run P w = .ok (.pointer none) w)
    (hx : opv l x = some v) (hi : opv l i = some (fk k)) : Y P w0 n l H o (.pointer ((mget m k).map ad)) := by
  intro a w hf ha
  have h1 := run_lookup (ok := false) (k := k) h hfk ha hm hk hz
  simp only [Bool.false_eq_true, if_false] at h1
  have h2 : (Instr.lookup t v (fk k) false).run P w = .ok (.pointer ((mget m k).map ad)) w := by
    rw [h1]
    cases mget m k with
    | none => rfl
    | some b => simp [hfv]
  simp [execOp, ho, hf.eval hx, hf.eval hi, h2]
end
abbrev adO (b : Nat) : Addr := ⟨b, 0, none⟩

theorem find_ct (mx_ : Int) (K : List Nat) (g : Gh) (b : Nat) (D : Dk) (p : Pth) (w0 : World) (H0 : Heap)
    (mx : MX mx_ H0) (bf_mx : BF (fun b => b = 0) H0.size) (hf : PDk K g H0 b D) (hl : p.length ≤ 4294967280) :
    Ct Tryd.prog w0 36 #[ptr b, Str p] H0 (fun r H2 => r = .tuple #[.pointer (fpt g.fb (if D.look p = 0 then mget D.now p else none)), .int .i64 (D.look p : Int)] ∧ Nw H0 H2) := by
  refine Ct.enter (args := [ptr b, Str p]) Tryd.func36 rfl rfl rfl ?_
  intro Q0 hret
  have hm0 : Nw H0 H0 := Mo.refl _ _
  have nx_hm0_hf := NxK.refl K H0.size
  have hbk_hf := hf.bk
  refine CW.seq (fun K1 hK1 hE1 => ?_)
  refine CW.region ?_
  refine LR.v (Y.assign rfl rfl) (Wd.u rfl) rfl rfl ?_
  refine LR.v (Y.assign rfl rfl) (Wd.u rfl) rfl rfl ?_
  refine LR.nil ?_
  refine hK1 _ _ ?_
  refine CW.seq (fun K2 hK2 hE2 => ?_)
  refine CW.seq (fun K3 hK3 hE3 => ?_)
  refine CW.region ?_
  refine LR.v (Y.move rfl rfl) (Wd.u rfl) rfl rfl ?_
  -- call selvage/simfs.Name
  refine LR.call rfl Tryd.call12 rfl (Wd.u rfl) rfl rfl (name_ct mx_ p w0 _ mx (bf_mx.mono (by omega)) hl) (fun v9 H9 r9 => ?_)
  obtain ⟨rfl, hs9⟩ := r9
  replace mx := mx.nw hs9
  replace hf := hf.nw hs9
  replace hm0 := hm0.tr hs9
  have hz1 := hs9.size
  refine LR.v (Y.not rfl rfl) (Wd.u rfl) rfl rfl ?_
  refine LR.nil ?_
  refine hK3 _ _ ?_
  refine CW.cond rfl (fun c10 => ?_) (fun c10 => ?_)
  ·
    refine CW.seq (fun K4 hK4 hE4 => ?_)
    refine CW.region ?_
    refine LR.v (Y.assign rfl rfl) (Wd.u rfl) rfl rfl ?_
    refine LR.v (Y.assign rfl rfl) (Wd.u rfl) rfl rfl ?_
    refine LR.nil ?_
    refine hK4 _ _ ?_
    refine CW.ret (hE2 .ret nofun _ _ (hret .ret (.inr rfl) _ _ _ (res2 rfl rfl rfl) ?_))
    have hk : D.look p = 7 := by
      unfold Dk.look
      rw [if_neg (by simpa using c10)]
    exact ⟨by rw [hk]; rfl, hm0⟩
  ·
    refine CW.skip ?_
    refine hK2 _ _ ?_
    refine CW.seq (fun K5 hK5 hE5 => ?_)
    refine CW.seq (fun K6 hK6 hE6 => ?_)
    refine CW.region_any (fun Hq => Nw H9 Hq) [] rfl ?_
    have hqs := Nw.refl H9
    refine LH.take 0 (by kernel_rfl) rfl (by kernel_rfl) (by kernel_rfl) (by kernel_rfl) (fun Hq hq => Y.move rfl rfl) (Wd.u rfl) rfl rfl hqs ?_
    refine LH.take 1 (by kernel_rfl) rfl (by kernel_rfl) (by kernel_rfl) (by kernel_rfl) (fun Hq hq => Y.nilCheck rfl rfl) (Wd.u rfl) rfl rfl hqs ?_
    refine LH.take 2 (by kernel_rfl) rfl (by kernel_rfl) (by kernel_rfl) (by kernel_rfl) (fun Hq hq => Y.fieldAddr (hf.vb.pt.nw hq) rfl Tryd.runUnderlying64 rfl rfl Tryd.sizeOf57 (by decide) rfl) (Wd.u rfl) rfl rfl hqs ?_
    refine LH.take 3 (by kernel_rfl) rfl (by kernel_rfl) (by kernel_rfl) (by kernel_rfl) (fun Hq hq => Y.load1 ((hf.vb.pt.drop 2).nw hq) rfl Tryd.isAgg57 rfl) (Wd.u rfl) rfl rfl hqs ?_
    refine LH.take 4 (by kernel_rfl) rfl (by kernel_rfl) (by kernel_rfl) (by kernel_rfl) (fun Hq hq => Y.move rfl rfl) (Wd.u rfl) rfl rfl hqs ?_
    refine LH.one (i := 5) (by kernel_rfl) ?_
    -- call selvage/simfs.Dir
    refine LO.call rfl rfl Tryd.call14 rfl (Wd.u rfl) rfl rfl (dir_ct mx_ p w0 _ mx (bf_mx.mono (by omega)) hl) (fun v16 H16 r16 => ?_)
    obtain ⟨rfl, hs16⟩ := r16
    replace mx := mx.nw hs16
    replace hf := hf.nw hs16
    replace hm0 := hm0.tr hs16
    have hz2 := hs16.size
    have hq16 := hqs.tr hs16
    refine ⟨.inr hq16, LH.narrow (SH2 := fun Hq => Nw H16 Hq) (fun Hq hq => hq16.tr hq) ?_⟩
    have hqn16 := Nw.refl H16
    refine LH.take 6 (by kernel_rfl) rfl (by kernel_rfl) (by kernel_rfl) (by kernel_rfl) (fun Hq hq => look_p adO (hf.hm.mo.nw hq) (fun _ => rfl) keyStr rfl Tryd.runUnderlying57 Tryd.underlying9 Tryd.zeroValue77 rfl rfl) (Wd.u rfl) rfl rfl hqn16 ?_
    refine LH.take 7 (by kernel_rfl) rfl (by kernel_rfl) (by kernel_rfl) (by kernel_rfl) (fun Hq hq => Y.assign rfl rfl) (Wd.u rfl) rfl rfl hqn16 ?_
    refine LH.done (by kernel_rfl) ?_
    have hqe := hqn16
    refine hK6 _ _ ?_
    refine CW.seq (fun K7 hK7 hE7 => ?_)
    refine CW.region ?_
    refine LR.v (Y.move rfl rfl) (Wd.u rfl) rfl rfl ?_
    refine LR.v (Y.pne rfl (by kernel_rfl) (by kernel_rfl) rfl rfl) (Wd.u rfl) rfl rfl ?_
    refine LR.nil ?_
    refine hK7 _ _ ?_
    refine CW.cond rfl (fun c19 => ?_) (fun c19 => ?_)
    ·
      obtain ⟨db, hdb⟩ : ∃ db, mget g.dm (dirP p) = some db := by
        cases hq : mget g.dm (dirP p) with
        | none => rw [hq] at c19; cases c19
        | some db => exact ⟨db, rfl⟩
      obtain ⟨nb, sb, kc, sv, nm, sm, hd⟩ := hf.dirs _ db hdb
      refine CW.seq (fun K8 hK8 hE8 => ?_)
      refine CW.region ?_
      refine LR.v (Y.cast (v2 := ptr db) (Y.move rfl rfl) (by rw [hdb]; rfl)) (Wd.u rfl) rfl rfl ?_
      refine LR.v (Y.nilCheck rfl rfl) (Wd.u rfl) rfl rfl ?_
      refine LR.v (Y.fieldAddr hd.vd.pt rfl Tryd.runUnderlying84 rfl rfl Tryd.sizeOf81 (by decide) rfl) (Wd.u rfl) rfl rfl ?_
      refine LR.v (Y.fieldAddr (hd.vd.pt.drop 0) rfl Tryd.runUnderlying81 rfl rfl Tryd.sizeOf79 (by decide) rfl) (Wd.u rfl) rfl rfl ?_
      refine LR.v (Y.load1 ((hd.vd.pt.drop 0).drop 0) rfl Tryd.isAgg79 rfl) (Wd.u rfl) rfl rfl ?_
      refine LR.v (Y.move rfl rfl) (Wd.u rfl) rfl rfl ?_
      refine LR.v (Y.cast (v2 := .pointer (fpt g.fb (mget D.now p))) (look_p (fun i => ⟨g.fb.getD i 0, 0, none⟩) hd.hn.mo (fun _ => rfl) keyStr rfl Tryd.runUnderlying79 Tryd.underlying9 Tryd.zeroValue68 rfl rfl) (by rw [hd.en p, if_pos rfl])) (Wd.u rfl) rfl rfl ?_
      refine LR.v (Y.assign rfl rfl) (Wd.u rfl) rfl rfl ?_
      refine LR.nil ?_
      refine hK8 _ _ ?_
      refine CW.seq (fun K9 hK9 hE9 => ?_)
      refine CW.region ?_
      refine LR.v (Y.move rfl rfl) (Wd.u rfl) rfl rfl ?_
      refine LR.v (Y.pne rfl (by kernel_rfl) (by kernel_rfl) rfl rfl) (Wd.u rfl) rfl rfl ?_
      refine LR.nil ?_
      refine hK9 _ _ ?_
      refine CW.cond rfl (fun c28 => ?_) (fun c28 => ?_)
      ·
        refine CW.seq (fun K10 hK10 hE10 => ?_)
        refine CW.region ?_
        refine LR.v (Y.move rfl rfl) (Wd.u rfl) rfl rfl ?_
        refine LR.v (Y.assign rfl rfl) (Wd.u rfl) rfl rfl ?_
        refine LR.v (Y.assign rfl rfl) (Wd.u rfl) rfl rfl ?_
        refine LR.nil ?_
        refine hK10 _ _ ?_
        refine CW.ret (hE5 .ret nofun _ _ (hret .ret (.inr rfl) _ _ _ (res2 rfl rfl rfl) ?_))
        have hk : D.look p = 0 := by
          unfold Dk.look
          rw [if_pos (by simpa using c10), if_pos (by cases hq : mget D.now p with
            | none => rw [hq] at c28; cases c28
            | some i => rfl)]
        exact ⟨by rw [hk, if_pos rfl]; rfl, hm0⟩
      ·
        refine CW.skip ?_
        refine hK5 _ _ ?_
        refine CW.seq (fun K11 hK11 hE11 => ?_)
        refine CW.region ?_
        refine LR.v (Y.assign rfl rfl) (Wd.u rfl) rfl rfl ?_
        refine LR.v (Y.assign rfl rfl) (Wd.u rfl) rfl rfl ?_
        refine LR.nil ?_
        refine hK11 _ _ ?_
        refine CW.ret (hret .ret (.inr rfl) _ _ _ (res2 rfl rfl rfl) ?_)
        have hk : D.look p = 2 := by
          unfold Dk.look
          rw [if_pos (by simpa using c10), if_neg]
          first
          | (cases hq : mget D.now p with
            | none => simp
            | some i => rw [hq] at c28; cases c28)
          | (have hnd : mget g.dm (dirP p) = none := (by cases hq : mget g.dm (dirP p) with
              | none => rfl
              | some db => rw [hq] at c19; cases c19)
             rw [((hf.abs _ hnd).1 p rfl).1]; simp)
        exact ⟨by rw [hk]; rfl, hm0⟩
    ·
      refine CW.skip ?_
      refine hK5 _ _ ?_
      refine CW.seq (fun K12 hK12 hE12 => ?_)
      refine CW.region ?_
      refine LR.v (Y.assign rfl rfl) (Wd.u rfl) rfl rfl ?_
      refine LR.v (Y.assign rfl rfl) (Wd.u rfl) rfl rfl ?_
      refine LR.nil ?_
      refine hK12 _ _ ?_
      refine CW.ret (hret .ret (.inr rfl) _ _ _ (res2 rfl rfl rfl) ?_)
      have hk : D.look p = 2 := by
        unfold Dk.look
        rw [if_pos (by simpa using c10), if_neg]
        first
        | (cases hq : mget D.now p with
          | none => simp
          | some i => rw [hq] at c28; cases c28)
        | (have hnd : mget g.dm (dirP p) = none := (by cases hq : mget g.dm (dirP p) with
            | none => rfl
            | some db => rw [hq] at c19; cases c19)
           rw [((hf.abs _ hnd).1 p rfl).1]; simp)
      exact ⟨by rw [hk]; rfl, hm0⟩

end Go.Proofs.YtfbfjhppppoilaaDoor.SimD
