/-
  The disk: from the operation on at which it was to stop it is dead (plain data).
-/
import Derived.Test.YtfbfjhppppoilaaDoorSimY
namespace Go.Proofs.YtfbfjhppppoilaaDoor.SimYA
open Go.Proofs.YtfbfjhppppoilaaDoor.E Go.RowKit Go.Proofs.YtfbfjhppppoilaaDoor.SimA Go.Proofs.YtfbfjhppppoilaaDoor.SimB Go.Proofs.YtfbfjhppppoilaaDoor.SimC Go.Proofs.YtfbfjhppppoilaaDoor.SimD Go.Proofs.YtfbfjhppppoilaaDoor.SimE Go.Proofs.YtfbfjhppppoilaaDoor.SimF Go.Proofs.YtfbfjhppppoilaaDoor.SimG Go.Proofs.YtfbfjhppppoilaaDoor.SimH Go.Proofs.YtfbfjhppppoilaaDoor.SimI Go.Proofs.YtfbfjhppppoilaaDoor.SimJ Go.Proofs.YtfbfjhppppoilaaDoor.SimK Go.Proofs.YtfbfjhppppoilaaDoor.SimL Go.Proofs.YtfbfjhppppoilaaDoor.SimM Go.Proofs.YtfbfjhppppoilaaDoor.SimN Go.Proofs.YtfbfjhppppoilaaDoor.SimP Go.Proofs.YtfbfjhppppoilaaDoor.SimQ Go.Proofs.YtfbfjhppppoilaaDoor.SimR Go.Proofs.YtfbfjhppppoilaaDoor.SimS Go.Proofs.YtfbfjhppppoilaaDoor.SimU Go.Proofs.YtfbfjhppppoilaaDoor.SimY
set_option maxRecDepth 20000
set_option linter.unusedVariables false
set_option linter.unusedSimpArgs false
set_option linter.unusedSectionVars false

structure St (n m : Nat) (D : Dk) : Prop where
  al : m < n → D.dead = false ∧ D.left = n - m ∧ D.ops = m
  de : n ≤ m → D.dead = true ∧ D.ops = n - 1
def Pns (D : Dk) : Prop := Inn paths D.now ∧ Inn paths D.stays ∧ ∀ c ∈ D.log, ∀ i, c.f = some i → c.n ∈ paths
def Sm (D E : Dk) : Prop := E.cap = D.cap ∧ E.most = D.most ∧ E.ops = D.ops ∧ E.left = D.left ∧ E.dead = D.dead
theorem Sm.rfl {D : Dk} : Sm D D := ⟨Eq.refl _, Eq.refl _, Eq.refl _, Eq.refl _, Eq.refl _⟩
structure Dd (n m : Nat) (D : Dk) : Prop where
  st : St n m D
  cap : D.cap = 65536
  most : D.most = 1024
  bs : Bs (504 * min m n) D
  pi : Pns D
theorem begin_alive {D : Dk} (h : D.dead = false) (h2 : D.left ≠ 1) : D.begin = (true, { D with left := D.left - 1, ops := D.ops + 1 }) := by
  unfold Dk.begin; rw [if_neg (by rw [h]; decide), if_neg h2]
theorem St.begin {n m : Nat} {D : Dk} (h : St n m D) (hn : 1 ≤ n) : St n (m + 1) D.begin.2 ∧ (D.begin.1 = true ↔ m + 1 < n) := by
  by_cases hm : m < n
  · obtain ⟨h1, h2, h3⟩ := h.al hm
    by_cases hl : D.left = 1
    · rw [last_ops h1 hl]
      refine ⟨⟨fun h4 => by omega, fun h4 => ⟨rfl, by show D.ops = n - 1; omega⟩⟩, by simp; omega⟩
    · rw [begin_alive h1 hl]
      refine ⟨⟨fun h4 => ⟨h1, by show D.left - 1 = n - (m + 1); omega, by show D.ops + 1 = m + 1; omega⟩, fun h4 => by omega⟩, by simp; omega⟩
  · obtain ⟨h1, h2⟩ := h.de (by omega)
    rw [dead_ops h1]
    exact ⟨⟨fun h4 => by omega, fun h4 => ⟨h1, h2⟩⟩, by simp; omega⟩
theorem bs_dead {k : Nat} {D : Dk} (h : Bs k D) (hb : D.begin.1 = false) : Bs k D.begin.2 := by
  unfold Dk.begin at hb ⊢
  split
  · exact h
  · rename_i h1
    split
    · exact ⟨h.an, h.ast, h.lg, h.op, h.fl, h.f, h.un, h.ld⟩
    · rename_i h2; rw [if_neg h1, if_neg h2] at hb; cases hb
theorem Dd.step {n m r : Nat} {D D2 : Dk} (h : Dd n m D) (hn : 1 ≤ n) (hs : Sm D.begin.2 D2 ∧ (r = 11 ↔ D.begin.1 = false) ∧ (D.begin.1 = false → D2 = D.begin.2)) (hB : Bs (504 * m + 504) D2) (hp : Pns D2) : Dd n (m + 1) D2 ∧ (r = 11 ↔ n ≤ m + 1) := by
  obtain ⟨⟨e1, e2, e3, e4, e5⟩, hr, hd⟩ := hs
  obtain ⟨s1, s2⟩ := h.st.begin hn
  obtain ⟨b1, b2, _⟩ := begin_same D
  refine ⟨⟨⟨fun h4 => ?_, fun h4 => ?_⟩, by rw [e1, b1]; exact h.cap, by rw [e2, b2]; exact h.most, ?_, hp⟩, ?_⟩
  · obtain ⟨q1, q2, q3⟩ := s1.al h4; exact ⟨by rw [e5]; exact q1, by rw [e4]; exact q2, by rw [e3]; exact q3⟩
  · obtain ⟨q1, q2⟩ := s1.de h4; exact ⟨by rw [e5]; exact q1, by rw [e3]; exact q2⟩
  · cases hb : D.begin.1 with
    | true => have := s2.1 hb; exact hB.mono (by omega)
    | false => rw [hd hb]; exact (bs_dead h.bs hb).mono (by omega)
  · rw [hr]
    cases hb : D.begin.1 with
    | true => have := s2.1 hb; simp; omega
    | false => simp; exact Classical.byContradiction (fun h5 => by have := s2.2 (by omega); rw [hb] at this; cases this)
theorem pns_begin {D : Dk} (h : Pns D) : Pns D.begin.2 := by
  obtain ⟨_, _, _, e4, e5, e6, _⟩ := begin_same D
  unfold Pns; rw [e4, e5, e6]; exact h
theorem pns_change {D : Dk} (h : Pns D) {c : Chg} (hc : ∀ i, c.f = some i → c.n ∈ paths) : Pns (D.change c) :=
  ⟨inn_ap h.1 hc, h.2.1, fun d hd i hi => by
    rcases List.mem_append.1 hd with hd | hd
    · exact h.2.2 d hd i hi
    · rw [List.mem_singleton.1 hd] at hi ⊢; exact hc i hi⟩
theorem sm_write (D : Dk) (p : Pth) (w : Wr) : Sm D (D.write p w) := by
  unfold Dk.write Dk.make
  cases mget D.now p with
  | some i => exact Sm.rfl
  | none => exact Sm.rfl
theorem pns_write {D : Dk} (h : Pns D) {p : Pth} (hp : p ∈ paths) (w : Wr) : Pns (D.write p w) := by
  unfold Dk.write Dk.make
  cases mget D.now p with
  | some i => exact h
  | none =>
    have h1 : Pns ({ D with fs := D.fs ++ [⟨[], [], []⟩] } : Dk) := h
    exact pns_change (c := ⟨[], p, some D.fs.length⟩) h1 (fun _ _ => hp)
theorem layE_ne (D : Dk) (p : Pth) (w : Wr) : D.layE p w ≠ 11 := by
  unfold Dk.layE; split; · decide
  split; · decide
  split <;> decide
theorem look_ne (D : Dk) (p : Pth) : D.look p ≠ 11 := by
  rcases look_or D p with e | e | e <;> rw [e] <;> decide
theorem dirE_ne (p : Pth) : dirE p ≠ 11 := by unfold dirE; split <;> decide
theorem step_lay (D : Dk) (p : Pth) (w : Wr) : Sm D.begin.2 (D.lay p w).2 ∧ ((D.lay p w).1 = 11 ↔ D.begin.1 = false) ∧ (D.begin.1 = false → (D.lay p w).2 = D.begin.2) := by
  cases hb : D.begin.1 with
  | false => rw [lay_dead hb]; exact ⟨Sm.rfl, by simp, fun _ => rfl⟩
  | true =>
    rw [lay_go hb]
    refine ⟨?_, by simp [layE_ne], nofun⟩
    simp only; split
    · exact sm_write _ _ _
    · exact Sm.rfl
theorem step_sync (D : Dk) (p : Pth) : Sm D.begin.2 (D.sync p).2 ∧ ((D.sync p).1 = 11 ↔ D.begin.1 = false) ∧ (D.begin.1 = false → (D.sync p).2 = D.begin.2) := by
  cases hb : D.begin.1 with
  | false => rw [sync_dead hb]; exact ⟨Sm.rfl, by simp, fun _ => rfl⟩
  | true =>
    rw [sync_go hb]
    refine ⟨?_, by simp [look_ne], nofun⟩
    simp only; split
    · exact Sm.rfl
    · exact Sm.rfl
theorem step_ren (D : Dk) (p q : Pth) : Sm D.begin.2 (D.rename p q).2 ∧ ((D.rename p q).1 = 11 ↔ D.begin.1 = false) ∧ (D.begin.1 = false → (D.rename p q).2 = D.begin.2) := by
  cases hb : D.begin.1 with
  | false => rw [ren_dead hb]; exact ⟨Sm.rfl, by simp, fun _ => rfl⟩
  | true =>
    rw [ren_go hb]
    have h : D.begin.2.renE p q ≠ 11 := by
      unfold Dk.renE; split; · decide
      split; · decide
      exact look_ne _ _
    refine ⟨?_, by simp [h], nofun⟩
    simp only; split
    · exact Sm.rfl
    · exact Sm.rfl
theorem step_rem (D : Dk) (p : Pth) : Sm D.begin.2 (D.remove p).2 ∧ ((D.remove p).1 = 11 ↔ D.begin.1 = false) ∧ (D.begin.1 = false → (D.remove p).2 = D.begin.2) := by
  cases hb : D.begin.1 with
  | false => rw [rem_dead hb]; exact ⟨Sm.rfl, by simp, fun _ => rfl⟩
  | true =>
    rw [rem_go hb]
    refine ⟨?_, by simp [look_ne], nofun⟩
    simp only; split
    · exact Sm.rfl
    · exact Sm.rfl
theorem step_sd (D : Dk) (p : Pth) : Sm D.begin.2 (D.syncDir p).2 ∧ ((D.syncDir p).1 = 11 ↔ D.begin.1 = false) ∧ (D.begin.1 = false → (D.syncDir p).2 = D.begin.2) := by
  cases hb : D.begin.1 with
  | false => rw [sd_dead hb]; exact ⟨Sm.rfl, by simp, fun _ => rfl⟩
  | true =>
    rw [sd_go hb]
    refine ⟨?_, by simp [dirE_ne], nofun⟩
    simp only; split
    · exact Sm.rfl
    · exact Sm.rfl
theorem Dd.lay {n m : Nat} {D : Dk} (h : Dd n m D) (hn : 1 ≤ n) {p : Pth} (hp : p ∈ paths) (w : Wr) (hw : w.d.length ≤ 500) : Dd n (m + 1) (D.lay p w).2 ∧ ((D.lay p w).1 = 11 ↔ n ≤ m + 1) := by
  refine h.step hn (step_lay D p w) ((h.bs.lay p w).mono (by omega)) ?_
  cases hb : D.begin.1 with
  | false => rw [lay_dead hb]; exact pns_begin h.pi
  | true =>
    rw [lay_go hb]; simp only; split
    · exact pns_write (pns_begin h.pi) hp w
    · exact pns_begin h.pi
theorem Dd.sync {n m : Nat} {D : Dk} (h : Dd n m D) (hn : 1 ≤ n) (p : Pth) : Dd n (m + 1) (D.sync p).2 ∧ ((D.sync p).1 = 11 ↔ n ≤ m + 1) := by
  refine h.step hn (step_sync D p) ((h.bs.sync p).mono (by omega)) ?_
  cases hb : D.begin.1 with
  | false => rw [sync_dead hb]; exact pns_begin h.pi
  | true =>
    rw [sync_go hb]; simp only; split
    · exact pns_begin h.pi
    · exact pns_begin h.pi
theorem Dd.rename {n m : Nat} {D : Dk} (h : Dd n m D) (hn : 1 ≤ n) (p : Pth) {q : Pth} (hq : q ∈ paths) : Dd n (m + 1) (D.rename p q).2 ∧ ((D.rename p q).1 = 11 ↔ n ≤ m + 1) := by
  refine h.step hn (step_ren D p q) ((h.bs.rename p q).mono (by omega)) ?_
  cases hb : D.begin.1 with
  | false => rw [ren_dead hb]; exact pns_begin h.pi
  | true =>
    rw [ren_go hb]; simp only; split
    · exact pns_change (pns_begin h.pi) (fun _ _ => hq)
    · exact pns_begin h.pi
theorem Dd.remove {n m : Nat} {D : Dk} (h : Dd n m D) (hn : 1 ≤ n) (p : Pth) : Dd n (m + 1) (D.remove p).2 ∧ ((D.remove p).1 = 11 ↔ n ≤ m + 1) := by
  refine h.step hn (step_rem D p) ((h.bs.remove p).mono (by omega)) ?_
  cases hb : D.begin.1 with
  | false => rw [rem_dead hb]; exact pns_begin h.pi
  | true =>
    rw [rem_go hb]; simp only; split
    · exact pns_change (pns_begin h.pi) nofun
    · exact pns_begin h.pi
theorem Dd.syncDir {n m : Nat} {D : Dk} (h : Dd n m D) (hn : 1 ≤ n) (p : Pth) : Dd n (m + 1) (D.syncDir p).2 ∧ ((D.syncDir p).1 = 11 ↔ n ≤ m + 1) := by
  refine h.step hn (step_sd D p) ((h.bs.syncDir p).mono (by omega)) ?_
  cases hb : D.begin.1 with
  | false => rw [sd_dead hb]; exact pns_begin h.pi
  | true =>
    rw [sd_go hb]; simp only; split
    · have h1 := pns_begin h.pi
      have hA : Asc D.begin.2.now := h.bs.begin.an
      refine ⟨h1.1, fun q hq => ?_, fun c hc => h1.2.2 c (List.mem_filter.1 hc).1⟩
      have hq : (mget (merge D.begin.2.now D.begin.2.stays p) q).isSome = true := hq
      rw [mget_merge hA] at hq
      split at hq
      · exact h1.1 q hq
      · exact h1.2.1 q hq
    · exact pns_begin h.pi
theorem Dd.dd {n m : Nat} {D : Dk} (h : Dd n m D) : D.dead = true ↔ n ≤ m := by
  constructor
  · intro h1
    exact Classical.byContradiction (fun h2 => by have := (h.st.al (by omega)).1; rw [h1] at this; cases this)
  · exact fun h1 => (h.st.de h1).1
theorem Dd.read {n m : Nat} {D : Dk} (h : Dd n m D) (p : Pth) : D.readE p = 11 ↔ n ≤ m := by
  rw [← h.dd]; unfold Dk.readE
  cases hd : D.dead with
  | true => simp
  | false => simp [look_ne]
theorem Dd.list {n m : Nat} {D : Dk} (h : Dd n m D) (p : Pth) : D.listE p = 11 ↔ n ≤ m := by
  rw [← h.dd]; unfold Dk.listE
  cases hd : D.dead with
  | true => simp
  | false => simp [dirE_ne]
theorem Dd.ops {n m : Nat} {D : Dk} (h : Dd n m D) : D.ops = min m (n - 1) := by
  by_cases hm : m < n
  · have := (h.st.al hm).2.2; omega
  · have := (h.st.de (by omega)).2; omega
theorem Dd.start (n : Nat) (hn : 1 ≤ n) : Dd n 0 ((Dk.empty 65536 1024).stop n) :=
  ⟨⟨fun _ => ⟨rfl, by show n = n - 0; omega, rfl⟩, fun h => by omega⟩, rfl, rfl, ((Bs.empty 65536 1024).stop n).mono (by omega), nofun, nofun, nofun⟩
theorem Dd.fin {n m : Nat} {D : Dk} (h : Dd n m D) (hn : n ≤ 9) (picks : List Int) : (D.crash picks).readE [122, 122] = 2 ∧ ((D.crash picks).lay [122, 122] ⟨false, []⟩).1 = 0 := by
  obtain ⟨c1, c2⟩ := crashD_in (picks := picks) h.pi.2.2 D.dirty (D.stays, 0) h.pi.2.1 h.bs.ast
  have hB := h.bs.crash picks
  have hI : Inn paths (D.crash picks).now := c1
  have hnm : nameB [122, 122] = true := by decide
  have hno : mget (D.crash picks).now [122, 122] = none := by
    cases hq : mget (D.crash picks).now [122, 122] with
    | none => rfl
    | some i => exact absurd (hI _ (by rw [hq]; rfl)) (by decide)
  have hl : (D.crash picks).now.length ≤ 5 := inn_len hB.an hI
  have hu := usedL_le (fun i => (hB.f i).1) (D.crash picks).now
  have hu2 : (D.crash picks).now.length * (504 * min m n) ≤ 5 * 4536 := Nat.mul_le_mul hl (by omega)
  have hcap : (D.crash picks).cap = 65536 := h.cap
  refine ⟨?_, ?_⟩
  · unfold Dk.readE Dk.look; rw [hnm, hno]; simp [Dk.crash]
  · have hw : ({ D.crash picks with left := (D.crash picks).left - 1, ops := (D.crash picks).ops + 1 } : Dk).wasL [122, 122] = [] := was_none hno
    rw [lay_b (begin_go rfl rfl) hnm (by rw [hw]; simp [Wr.on]) (by
      rw [hw]
      show usedL (D.crash picks).fs (D.crash picks).now + _ ≤ (D.crash picks).cap + _
      rw [hcap]; simp [Wr.on]; omega)]

end Go.Proofs.YtfbfjhppppoilaaDoor.SimYA
