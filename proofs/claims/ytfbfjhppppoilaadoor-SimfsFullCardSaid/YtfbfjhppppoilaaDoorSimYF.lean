/-
  The disk: how full it is, file by file (plain data).
-/
import Derived.Test.YtfbfjhppppoilaaDoorSimYE
namespace Go.Proofs.YtfbfjhppppoilaaDoor.SimYF
open Go.Proofs.YtfbfjhppppoilaaDoor.E Go.RowKit Go.Proofs.YtfbfjhppppoilaaDoor.SimA Go.Proofs.YtfbfjhppppoilaaDoor.SimB Go.Proofs.YtfbfjhppppoilaaDoor.SimC Go.Proofs.YtfbfjhppppoilaaDoor.SimD Go.Proofs.YtfbfjhppppoilaaDoor.SimE Go.Proofs.YtfbfjhppppoilaaDoor.SimF Go.Proofs.YtfbfjhppppoilaaDoor.SimG Go.Proofs.YtfbfjhppppoilaaDoor.SimH Go.Proofs.YtfbfjhppppoilaaDoor.SimI Go.Proofs.YtfbfjhppppoilaaDoor.SimJ Go.Proofs.YtfbfjhppppoilaaDoor.SimK Go.Proofs.YtfbfjhppppoilaaDoor.SimL Go.Proofs.YtfbfjhppppoilaaDoor.SimM Go.Proofs.YtfbfjhppppoilaaDoor.SimN Go.Proofs.YtfbfjhppppoilaaDoor.SimP Go.Proofs.YtfbfjhppppoilaaDoor.SimQ Go.Proofs.YtfbfjhppppoilaaDoor.SimR Go.Proofs.YtfbfjhppppoilaaDoor.SimS Go.Proofs.YtfbfjhppppoilaaDoor.SimU Go.Proofs.YtfbfjhppppoilaaDoor.SimY Go.Proofs.YtfbfjhppppoilaaDoor.SimYA Go.Proofs.YtfbfjhppppoilaaDoor.SimYE
set_option maxRecDepth 20000
set_option linter.unusedVariables false
set_option linter.unusedSimpArgs false
set_option linter.unusedSectionVars false

structure Fu (cap most : Nat) (hv : List Nat) (D : Dk) : Prop where
  dead : D.dead = false
  left : D.left = 0
  cap : D.cap = cap
  most : D.most = most
  ow : Own1 D
  pi : Pns D
  an : Asc D.now
  hl : hv.length = 5
  hv : ∀ k, k < 5 → (D.wasL (paths.getD k [])).length = hv.getD k 0
theorem sum5 : ∀ {l : List Nat}, l.length = 5 → l.sum = l.getD 0 0 + l.getD 1 0 + l.getD 2 0 + l.getD 3 0 + l.getD 4 0
  | [a, b, c, d, e], _ => by simp; omega
theorem Fu.used {cap most : Nat} {hv : List Nat} {D : Dk} (h : Fu cap most hv D) : D.used = hv.getD 0 0 + hv.getD 1 0 + hv.getD 2 0 + hv.getD 3 0 + hv.getD 4 0 := by
  rw [used_paths h.an (by decide : paths.Nodup) h.pi.1]
  have h0 := h.hv 0 (by decide)
  have h1 := h.hv 1 (by decide)
  have h2 := h.hv 2 (by decide)
  have h3 := h.hv 3 (by decide)
  have h4 := h.hv 4 (by decide)
  rw [← h0, ← h1, ← h2, ← h3, ← h4]
  simp [paths]; omega
theorem path_inj {j k : Nat} (hj : j < 5) (hk : k < 5) (e : paths.getD j [] = paths.getD k []) : j = k := by
  have h : ∀ j k : Fin 5, paths.getD j.val [] = paths.getD k.val [] → j = k := by decide
  exact congrArg Fin.val (h ⟨j, hj⟩ ⟨k, hk⟩ e)
theorem path_ok {k : Nat} (hk : k < 5) : nameB (paths.getD k []) = true ∧ paths.getD k [] ∈ paths := by
  have h : ∀ k : Fin 5, nameB (paths.getD k.val []) = true ∧ paths.getD k.val [] ∈ paths := by decide
  exact h ⟨k, hk⟩
theorem Fu.lay {cap most : Nat} {hv : List Nat} {D : Dk} (h : Fu cap most hv D) {k : Nat} (hk : k < 5) (w : Wr) {want : Nat} (hw : want = (if w.b = true then hv.getD k 0 else 0) + w.d.length) :
    (most < want ∧ (D.lay (paths.getD k []) w).1 = 5 ∧ Fu cap most hv (D.lay (paths.getD k []) w).2) ∨
    (¬ most < want ∧ cap + hv.getD k 0 < D.used + want ∧ (D.lay (paths.getD k []) w).1 = 12 ∧ Fu cap most hv (D.lay (paths.getD k []) w).2) ∨
    (¬ most < want ∧ ¬ cap + hv.getD k 0 < D.used + want ∧ (D.lay (paths.getD k []) w).1 = 0 ∧ Fu cap most (hv.set k want) (D.lay (paths.getD k []) w).2) := by
  obtain ⟨hn, hp⟩ := path_ok hk
  have hb := begin_go h.dead h.left
  obtain ⟨D1, hD1⟩ : ∃ D1 : Dk, D1 = { D with left := D.left - 1, ops := D.ops + 1 } := ⟨_, rfl⟩
  rw [← hD1] at hb
  have h1 : Fu cap most hv D1 := by rw [hD1]; exact ⟨h.dead, by show D.left - 1 = 0; rw [h.left], h.cap, h.most, h.ow, h.pi, h.an, h.hl, h.hv⟩
  have hu : D1.used = D.used := by rw [hD1]; rfl
  have hwl : (w.on (D1.wasL (paths.getD k [])) w.d.length).length = want := by rw [on_len, h1.hv k hk, hw]
  rw [lay_go (by rw [hb]), hb]
  simp only
  by_cases c1 : most < want
  · rw [layE_5 hn (by rw [hwl, h1.most]; exact c1)]
    exact .inl ⟨c1, rfl, h1⟩
  · by_cases c2 : cap + hv.getD k 0 < D.used + want
    · rw [layE_12 hn (by rw [hwl, h1.most]; exact c1) (by rw [hwl, h1.cap, h1.hv k hk, hu]; exact c2)]
      exact .inr (.inl ⟨c1, c2, rfl, h1⟩)
    · rw [layE_0 hn (by rw [hwl, h1.most]; exact c1) (by rw [hwl, h1.cap, h1.hv k hk, hu]; exact c2)]
      refine .inr (.inr ⟨c1, c2, rfl, ?_⟩)
      simp only [if_true]
      obtain ⟨o1, o2⟩ := h1.ow.write (paths.getD k []) w
      obtain ⟨s1, s2, s3, s4, s5⟩ := sm_write D1 (paths.getD k []) w
      refine ⟨by rw [s5]; exact h1.dead, by rw [s4]; exact h1.left, by rw [s1]; exact h1.cap, by rw [s2]; exact h1.most, o1, pns_write h1.pi hp w, ?_, by simp [h1.hl], fun j hj => ?_⟩
      · unfold Dk.write Dk.make
        cases mget D1.now (paths.getD k []) with
        | some i => exact h1.an
        | none => exact asc_ap h1.an ⟨[], paths.getD k [], some D1.fs.length⟩
      · rw [o2]
        by_cases e : j = k
        · rw [e, if_pos rfl, hwl, List.getD_eq_getElem?_getD, List.getElem?_set_self (by rw [h1.hl]; exact hk)]; rfl
        · rw [if_neg (fun h9 => e (path_inj hj hk h9)), h1.hv j hj, List.getD_eq_getElem?_getD, List.getD_eq_getElem?_getD, List.getElem?_set_ne (Ne.symm e)]
theorem Fu.start (cap most : Nat) : Fu cap most [0, 0, 0, 0, 0] (Dk.empty cap most) :=
  ⟨rfl, rfl, rfl, rfl, ⟨nofun, nofun⟩, ⟨nofun, nofun, nofun⟩, List.Pairwise.nil, rfl, fun k hk => by
    have h : ∀ k : Fin 5, ([0, 0, 0, 0, 0] : List Nat).getD k.val 0 = 0 := by decide
    rw [h ⟨k, hk⟩]; rfl⟩

end Go.Proofs.YtfbfjhppppoilaaDoor.SimYF
