/-
  Contracts of functions of the program, and plain laws: put together of several texts.
-/
import Derived.Test.YtdliddjkacbggaaGreatDoorGf
import Derived.Test.YtdliddjkacbggaaGreatDoorGb
import Derived.SizedLaws
/-
  A journal: read as it was written, cut anywhere; on a disk that is too small.
-/
namespace Go.Proofs.YtdliddjkacbggaaGreatDoor.WalL
open Go.Proofs.YtdliddjkacbggaaGreatDoor.E Go.RowKit Go.Proofs.YtdliddjkacbggaaGreatDoor.SumB Go.Proofs.YtdliddjkacbggaaGreatDoor.SumC Go.Proofs.YtdliddjkacbggaaGreatDoor.SumF Go.Proofs.YtdliddjkacbggaaGreatDoor.SumG Go.Proofs.YtdliddjkacbggaaGreatDoor.DelA Go.Proofs.YtdliddjkacbggaaGreatDoor.SimA Go.Proofs.YtdliddjkacbggaaGreatDoor.SimB Go.Proofs.YtdliddjkacbggaaGreatDoor.SimC Go.Proofs.YtdliddjkacbggaaGreatDoor.SimD Go.Proofs.YtdliddjkacbggaaGreatDoor.SimE Go.Proofs.YtdliddjkacbggaaGreatDoor.SimF Go.Proofs.YtdliddjkacbggaaGreatDoor.SimG Go.Proofs.YtdliddjkacbggaaGreatDoor.SimH Go.Proofs.YtdliddjkacbggaaGreatDoor.SimI Go.Proofs.YtdliddjkacbggaaGreatDoor.SimQ Go.Proofs.YtdliddjkacbggaaGreatDoor.SimR Go.Proofs.YtdliddjkacbggaaGreatDoor.SimS Go.Proofs.YtdliddjkacbggaaGreatDoor.SimU Go.Proofs.YtdliddjkacbggaaGreatDoor.SimY Go.Proofs.YtdliddjkacbggaaGreatDoor.SimYA Go.Proofs.YtdliddjkacbggaaGreatDoor.SimYE Go.Proofs.YtdliddjkacbggaaGreatDoor.WalA Go.Proofs.YtdliddjkacbggaaGreatDoor.WalB Go.Proofs.YtdliddjkacbggaaGreatDoor.WalC Go.Proofs.YtdliddjkacbggaaGreatDoor.WalD Go.Proofs.YtdliddjkacbggaaGreatDoor.WalE Go.Proofs.YtdliddjkacbggaaGreatDoor.WalF Go.Proofs.YtdliddjkacbggaaGreatDoor.WalG Go.Proofs.YtdliddjkacbggaaGreatDoor.WalH Go.Proofs.YtdliddjkacbggaaGreatDoor.WalI Go.Proofs.YtdliddjkacbggaaGreatDoor.WalJ Go.Proofs.YtdliddjkacbggaaGreatDoor.WalK
set_option maxRecDepth 20000
set_option linter.unusedVariables false
set_option linter.unusedSimpArgs false
set_option linter.unusedSectionVars false

theorem encW_take {l : List (SV × Rec)} {k : Nat} (h : k < l.length) : (encW (recs (l.take (k + 1)))).length = (encW (recs (l.take k))).length + (13 + l[k].2.length) := by
  unfold encW; rw [encN_take h, List.length_append, List.length_append, List.length_append, recW_len]; omega
theorem bs_mend2 {N M : Nat} {D : Dk} (h : Bs N D) (p : Pth) (n : Nat) (hM : (D.readL p).length + 8 ≤ M) : Bs (N + 4 * (M + 20)) (mendD D p n).2 := by
  unfold mendD; split
  · exact h.mono (by omega)
  · split
    · exact h.mono (by omega)
    · exact (bs_fresh h p _).mono (by have := encW_bd (D.readL p) n; omega)
theorem bs_app2 {N M : Nat} {D : Dk} (h : Bs N D) (p : Pth) (n : Nat) (br : Bool) (r : Rec) (hM : (D.readL p).length + 8 ≤ M) : Bs (N + 4 * (M + 20) + 4 * (r.length + 20)) (appD D p n br r).2.2.2 := by
  have h1 : Bs (N + 4 * (M + 20)) (preD D p n br).2.2 := by
    unfold preD; split
    · exact bs_mend2 h p n hM
    · exact h.mono (by omega)
  unfold appD; split
  · exact h1.mono (by omega)
  · exact (bs_run (apS_bs p _ r) h1).mono (by simp [apS]; omega)
/-- a journal, and what stands behind it -/
structure Fj (cap : Nat) (p : Pth) (l : List Rec) (br : Bool) (D : Dk) : Prop where
  ex : ∃ t, One cap 65536 p (encW l ++ t) D ∧ oneW l.length t = none ∧ (br = false → t = []) ∧ (encW l ++ t).length ≤ cap
theorem Fj.parse {cap : Nat} {p : Pth} {l : List Rec} {br : Bool} {D : Dk} (h : Fj cap p l br D) (n1 : nameB p = true) (hl : ∀ r ∈ l, r.length ≤ 1048576) : D.readE p = 0 ∧ parE (D.readL p) = 0 ∧ parL (D.readL p) = l ∧ (D.readL p).length ≤ cap := by
  obtain ⟨t, h1, h2, _, h4⟩ := h.ex
  obtain ⟨r1, r2⟩ := h1.read n1
  rw [r2]
  have := parL_enc l t hl
  rw [parP_stop h2, List.append_nil] at this
  exact ⟨r1, parE_enc l t, this, h4⟩
theorem Fj.step {cap : Nat} {p : Pth} {l : List Rec} {br : Bool} {D : Dk} {r : Rec} (h : Fj cap p l br D) (n1 : nameB p = true) (n2 : nameB (newP p) = true) (hd : dirE (dirP p) = 0) (hl : ∀ r ∈ l, r.length ≤ 1048576) (hr : r.length ≤ 1048576) (hr3 : r.length ≤ 3000) (hc : cap ≤ 4000) :
    ((appD D p l.length br r).1 = 0 ∧ (appD D p l.length br r).2.1 = l.length + 1 ∧ Fj cap p (l ++ [r]) (appD D p l.length br r).2.2.1 (appD D p l.length br r).2.2.2) ∨ ((appD D p l.length br r).1 = 12 ∧ (appD D p l.length br r).2.1 = l.length ∧ Fj cap p l (appD D p l.length br r).2.2.1 (appD D p l.length br r).2.2.2) := by
  -- a journal that is whole
  have main : ∀ {D : Dk} {br0 : Bool} {D0 : Dk}, One cap 65536 p (encW l) D → (encW l).length ≤ cap → preD D0 p l.length br0 = (0, l.length, D) →
      ((appD D0 p l.length br0 r).1 = 0 ∧ (appD D0 p l.length br0 r).2.1 = l.length + 1 ∧ Fj cap p (l ++ [r]) (appD D0 p l.length br0 r).2.2.1 (appD D0 p l.length br0 r).2.2.2) ∨ ((appD D0 p l.length br0 r).1 = 12 ∧ (appD D0 p l.length br0 r).2.1 = l.length ∧ Fj cap p l (appD D0 p l.length br0 r).2.2.1 (appD D0 p l.length br0 r).2.2.2) := by
    intro D br0 D0 hO hle hp
    rw [app_go hp]
    rcases hO.recd2 n1 l.length r (by omega) with ⟨h1, h2⟩ | ⟨h1, h2, h3⟩
    · rw [if_neg (by rw [h1]; decide), if_neg (by rw [h1]; decide)]
      refine .inr ⟨h1, rfl, ?_⟩
      rcases h2 with h2 | ⟨h2, h3⟩
      · exact ⟨[], by rw [List.append_nil]; exact h2, by simp [oneW], fun _ => rfl, by rw [List.append_nil]; exact hle⟩
      · exact ⟨layW l.length r, h2, lay_none _ _ hr, fun h => (by cases h), h3⟩
    · rw [if_pos h1, if_pos h1]
      exact .inl ⟨h1, rfl, [], by rw [List.append_nil, encW_snoc]; exact h2, by simp [oneW], fun _ => rfl, by rw [List.append_nil, encW_snoc]; exact h3⟩
  obtain ⟨t, h1, h2, h3, h4⟩ := h.ex
  cases hb : br with
  | false =>
    have e := h3 hb
    rw [e, List.append_nil] at h1 h4
    exact main h1 h4 (pre_0 rfl)
  | true =>
    obtain ⟨q1, q2, q3, q4⟩ := h.parse n1 hl
    have hm := mend_3 (n := l.length) q1 q2
    rw [q3, List.take_length] at hm
    have hmn : mendN D p l.length = l.length := by unfold mendN; rw [q3, List.take_length]
    have hlen : (encW l).length ≤ 65536 := by rw [List.length_append] at h4; omega
    rcases h1.fresh n1 n2 hd l hlen with ⟨f1, f2, f3⟩ | ⟨f1, f2, f3⟩
    · have hz : (mendD D p l.length).1 ≠ 0 := by rw [hm, f1]; decide
      rw [app_bad rfl hz, hm]
      exact .inr ⟨f1, rfl, t, f3, h2, fun h => (by cases h), h4⟩
    · refine main f3 (by omega) ?_
      rw [pre_1 rfl, hm, f1, hmn]
theorem Fj.start {cap : Nat} {p : Pth} (n1 : nameB p = true) (n2 : nameB (newP p) = true) (hd : dirE (dirP p) = 0) (hc : 8 ≤ cap) : (openD (Dk.empty cap 65536) p).1 = 0 ∧ (openD (Dk.empty cap 65536) p).2.1 = [] ∧ Fj cap p [] false (openD (Dk.empty cap 65536) p).2.2 := by
  obtain ⟨h1, h2, h3⟩ := One.start (cap := cap) (most := 65536) n1 n2 hd (by decide) hc
  exact ⟨h1, h2, [], by rw [List.append_nil]; exact h3, by simp [oneW], fun _ => rfl, by rw [List.append_nil]; exact hc⟩

end Go.Proofs.YtdliddjkacbggaaGreatDoor.WalL
/-
  A journal on a disk that stops and crashes (plain data).
-/
namespace Go.Proofs.YtdliddjkacbggaaGreatDoor.WalM
open Go.Proofs.YtdliddjkacbggaaGreatDoor.E Go.RowKit Go.Proofs.YtdliddjkacbggaaGreatDoor.SimA Go.Proofs.YtdliddjkacbggaaGreatDoor.SimB Go.Proofs.YtdliddjkacbggaaGreatDoor.SimC Go.Proofs.YtdliddjkacbggaaGreatDoor.SimD Go.Proofs.YtdliddjkacbggaaGreatDoor.SimE Go.Proofs.YtdliddjkacbggaaGreatDoor.SimF Go.Proofs.YtdliddjkacbggaaGreatDoor.SimG Go.Proofs.YtdliddjkacbggaaGreatDoor.SimH Go.Proofs.YtdliddjkacbggaaGreatDoor.SimI Go.Proofs.YtdliddjkacbggaaGreatDoor.SimN Go.Proofs.YtdliddjkacbggaaGreatDoor.SimQ Go.Proofs.YtdliddjkacbggaaGreatDoor.SimR Go.Proofs.YtdliddjkacbggaaGreatDoor.SimS Go.Proofs.YtdliddjkacbggaaGreatDoor.SimU Go.Proofs.YtdliddjkacbggaaGreatDoor.SimY Go.Proofs.YtdliddjkacbggaaGreatDoor.SimYA Go.Proofs.YtdliddjkacbggaaGreatDoor.SimYE Go.Proofs.YtdliddjkacbggaaGreatDoor.WalA Go.Proofs.YtdliddjkacbggaaGreatDoor.WalB Go.Proofs.YtdliddjkacbggaaGreatDoor.WalC Go.Proofs.YtdliddjkacbggaaGreatDoor.WalD Go.Proofs.YtdliddjkacbggaaGreatDoor.WalE Go.Proofs.YtdliddjkacbggaaGreatDoor.WalF Go.Proofs.YtdliddjkacbggaaGreatDoor.WalG Go.Proofs.YtdliddjkacbggaaGreatDoor.WalH Go.Proofs.YtdliddjkacbggaaGreatDoor.WalI Go.Proofs.YtdliddjkacbggaaGreatDoor.WalL
set_option maxRecDepth 20000
set_option linter.unusedVariables false
set_option linter.unusedSimpArgs false
set_option linter.unusedSectionVars false

theorem runD_nil (D : Dk) : runD [] D = (0, D) := rfl
theorem begin_cases {D : Dk} (h : D.dead = false) : (D.begin.1 = false ∧ D.begin.2 = ({ D with left := 0, dead := true } : Dk) ∧ D.left = 1) ∨ (D.begin.1 = true ∧ D.begin.2 = ({ D with left := D.left - 1, ops := D.ops + 1 } : Dk) ∧ D.left ≠ 1) := by
  by_cases h1 : D.left = 1
  · refine .inl ?_
    unfold Dk.begin; rw [if_neg (by rw [h]; decide), if_pos h1]; exact ⟨rfl, rfl, h1⟩
  · refine .inr ?_
    unfold Dk.begin; rw [if_neg (by rw [h]; decide), if_neg h1]; exact ⟨rfl, rfl, h1⟩
theorem way_form (d b : List UInt8) (q : Nat) : ∃ a z, a + z ≤ d.length ∧ wayW [⟨true, d⟩] b q = b ++ d.take a ++ List.replicate z 0 := by
  unfold wayW
  split
  · exact ⟨0, 0, by omega, by simp⟩
  · rename_i h0
    split
    · rename_i h1
      unfold Wr.ways at h1
      unfold Wr.part
      split
      · exact ⟨min (q - 1 + 1) d.length, 0, by omega, by simp [Wr.on]⟩
      · rename_i h2
        simp only at h1 h2
        refine ⟨q - 1 - d.length, d.length - (q - 1 - d.length), by omega, by simp [Wr.on]⟩
    · exact ⟨d.length, 0, by omega, by simp [wayW, Wr.on]⟩
theorem way_len {d b : List UInt8} {n : Nat} (q : Nat) (hd : d.length ≤ n) (hb : b.length ≤ n) : (wayW [⟨false, d⟩] b q).length ≤ n := by
  refine wayW_len _ _ _ (fun j => ?_)
  cases j with
  | zero => simpa [onAll] using hb
  | succ j => simpa [onAll, Wr.on] using hd
/-! ### what a crash leaves -/
theorem crash_names {D : Dk} {d : Pth} (h : ∀ c ∈ D.log, c.dir = d) (picks : List Int) : ∃ j, j ≤ D.log.length ∧ (D.crashN picks).1 = apl (D.log.take j) D.stays := by
  have hc : D.chgs d = D.log := by unfold Dk.chgs; rw [List.filter_eq_self]; intro c hc; simpa using h c hc
  rw [← D.crashN_any picks (L := [d]) (List.pairwise_singleton _ _) (fun n hn => by
    unfold Dk.chgs at hn
    obtain ⟨c, hc2⟩ := List.exists_mem_of_ne_nil _ hn
    have h2 := List.mem_filter.1 hc2
    have : c.dir = n := by simpa using h2.2
    rw [List.mem_singleton, ← this, h c h2.1])]
  simp only [List.foldl_cons, List.foldl_nil]
  unfold crashD
  split
  · rename_i h0
    rw [hc] at h0
    exact ⟨0, Nat.zero_le _, by rw [List.take_zero, apl_nil]⟩
  · rw [hc]
    exact ⟨min (pickN picks 0 (D.log.length + 1)) D.log.length, Nat.min_le_right _ _, by simp only; rw [← List.take_eq_take_min]⟩
theorem crashF_skip {picks : List Int} {s : List Fdt × Nat} {x : Pth × Nat} (h : (fget s.1 x.2).w = []) : crashF picks s x = s := by unfold crashF; simp only; rw [if_pos h]
theorem crashF_do {picks : List Int} {s : List Fdt × Nat} {x : Pth × Nat} (hl : x.2 < s.1.length) : ∃ q, (crashF picks s x).1.length = s.1.length ∧ (∀ i, i ≠ x.2 → fget (crashF picks s x).1 i = fget s.1 i) ∧ ((fget s.1 x.2).w = [] → crashF picks s x = s) ∧ ((fget s.1 x.2).w ≠ [] → fget (crashF picks s x).1 x.2 = ⟨wayW (fget s.1 x.2).w (fget s.1 x.2).stays q, wayW (fget s.1 x.2).w (fget s.1 x.2).stays q, []⟩) := by
  refine ⟨pickN picks s.2 (waysF (fget s.1 x.2).w), ?_, fun i hi => ?_, crashF_skip, fun h => ?_⟩
  · unfold crashF; simp only; split
    · rfl
    · simp
  · unfold crashF; simp only; split
    · rfl
    · show fget (s.1.set _ _) i = _; rw [fget_set, if_neg (fun h => hi h.1)]
  · unfold crashF; simp only; rw [if_neg h]
    show fget (s.1.set _ _) _ = _; rw [fget_set, if_pos ⟨rfl, hl⟩]
/-! ### a journal at rest: all of it stays -/
structure Fl (p : Pth) (c : List UInt8) (D : Dk) : Prop where
  cap : 1048576 ≤ D.cap
  most : 1048576 ≤ D.most
  log : D.log = []
  st : D.stays = D.now
  cl : c.length ≤ 200000
  ex : ∃ i, i < D.fs.length ∧ fget D.fs i = ⟨c, c, []⟩ ∧ (D.now = [(p, i)] ∨ ∃ k x, k < D.fs.length ∧ k ≠ i ∧ fget D.fs k = ⟨x, x, []⟩ ∧ x.length ≤ 200000 ∧ D.now = [(p, i), (newP p, k)])
section
variable {p : Pth} {c e : List UInt8} {D : Dk} {l : List Rec} {r : Rec}
theorem Fl.of {D2 : Dk} (h : Fl p c D) (h1 : D2.cap = D.cap) (h2 : D2.most = D.most) (h3 : D2.log = D.log) (h4 : D2.stays = D.stays) (h5 : D2.now = D.now) (h6 : D2.fs = D.fs) : Fl p c D2 :=
  ⟨by rw [h1]; exact h.cap, by rw [h2]; exact h.most, by rw [h3]; exact h.log, by rw [h4, h5]; exact h.st, h.cl, by rw [h6, h5]; exact h.ex⟩
theorem Fl.stop (h : Fl p c D) (n : Nat) : Fl p c (D.stop n) := h.of rfl rfl rfl rfl rfl rfl
theorem Fl.get (h : Fl p c D) : ∃ i, mget D.now p = some i ∧ i < D.fs.length ∧ fget D.fs i = ⟨c, c, []⟩ := by
  obtain ⟨i, h1, h2, h3⟩ := h.ex
  rcases h3 with h3 | ⟨k, x, _, _, _, _, h3⟩
  · exact ⟨i, by rw [h3]; simp [mget], h1, h2⟩
  · exact ⟨i, by rw [h3]; simp [mget], h1, h2⟩
theorem Fl.was (h : Fl p c D) : D.wasL p = c := by
  obtain ⟨i, h1, _, h2⟩ := h.get
  unfold Dk.wasL; rw [h1]; simp [h2]
theorem Fl.used (h : Fl p c D) : D.used ≤ c.length + 200000 ∧ c.length ≤ D.used := by
  obtain ⟨i, h1, h2, h3⟩ := h.ex
  unfold Dk.used usedL
  rcases h3 with h3 | ⟨k, x, _, _, h4, h5, h3⟩
  · rw [h3]; simp [h2]
  · rw [h3]; simp [h2, h4]; omega
theorem Fl.crash (h : Fl p c D) (picks : List Int) : Fl p c (D.crash picks) ∧ (D.crashA picks).2 = 0 ∧ (D.crash picks).dead = false ∧ (D.crash picks).left = 0 := by
  have hN : D.crashN picks = (D.now, 0) := by unfold Dk.crashN Dk.dirty; rw [h.log, h.st]; rfl
  obtain ⟨i, h1, h2, h3⟩ := h.ex
  have hA : D.crashA picks = (D.fs, 0) := by
    unfold Dk.crashA; rw [hN]
    rcases h3 with h3 | ⟨k, x, _, _, h4, h5, h3⟩
    · rw [h3]; simp only [List.foldl_cons, List.foldl_nil]; rw [crashF_skip (by simp only; rw [h2])]
    · rw [h3]; simp only [List.foldl_cons, List.foldl_nil]; rw [crashF_skip (x := (p, i)) (by simp only; rw [h2]), crashF_skip (by simp only; rw [h4])]
  refine ⟨⟨h.cap, h.most, rfl, rfl, h.cl, i, ?_, ?_, ?_⟩, by rw [hA], rfl, rfl⟩
  · show i < (D.crashA picks).1.length; rw [hA]; exact h1
  · show fget (D.crashA picks).1 i = _; rw [hA]; exact h2
  · show (D.crashN picks).1 = _ ∨ ∃ k x, k < (D.crashA picks).1.length ∧ k ≠ i ∧ fget (D.crashA picks).1 k = _ ∧ _ ∧ (D.crashN picks).1 = _
    rw [hA, hN]; exact h3
/-- a new journal beside the elder one -/
structure A1 (p : Pth) (c e : List UInt8) (D : Dk) : Prop where
  cap : 1048576 ≤ D.cap
  most : 1048576 ≤ D.most
  cl : c.length ≤ 200000
  el : e.length ≤ 200000
  ex : ∃ i k y w, i < D.fs.length ∧ k < D.fs.length ∧ k ≠ i ∧ fget D.fs i = ⟨c, c, []⟩ ∧ fget D.fs k = ⟨e, y, w⟩ ∧ (w = [⟨false, e⟩] ∨ w = [] ∧ y = e) ∧ y.length ≤ 200000 ∧ D.now = [(p, i), (newP p, k)] ∧ (D.stays = [(p, i)] ∧ D.log = [⟨[], newP p, some k⟩] ∨ D.stays = [(p, i), (newP p, k)] ∧ D.log = [])
theorem A1.of {D2 : Dk} (h : A1 p c e D) (h1 : D2.cap = D.cap) (h2 : D2.most = D.most) (h3 : D2.log = D.log) (h4 : D2.stays = D.stays) (h5 : D2.now = D.now) (h6 : D2.fs = D.fs) : A1 p c e D2 :=
  ⟨by rw [h1]; exact h.cap, by rw [h2]; exact h.most, h.cl, h.el, by rw [h6, h5, h4, h3]; exact h.ex⟩
/-- it has the elder one's name -/
structure A3 (p : Pth) (c e : List UInt8) (D : Dk) : Prop where
  cap : 1048576 ≤ D.cap
  most : 1048576 ≤ D.most
  cl : c.length ≤ 200000
  el : e.length ≤ 200000
  ex : ∃ i k, i < D.fs.length ∧ k < D.fs.length ∧ k ≠ i ∧ fget D.fs i = ⟨c, c, []⟩ ∧ fget D.fs k = ⟨e, e, []⟩ ∧ D.now = [(p, k)] ∧ (D.stays = [(p, i)] ∧ D.log = [⟨[], newP p, some k⟩, ⟨newP p, p, some k⟩] ∨ D.stays = [(p, i), (newP p, k)] ∧ D.log = [⟨newP p, p, some k⟩])
theorem A3.of {D2 : Dk} (h : A3 p c e D) (h1 : D2.cap = D.cap) (h2 : D2.most = D.most) (h3 : D2.log = D.log) (h4 : D2.stays = D.stays) (h5 : D2.now = D.now) (h6 : D2.fs = D.fs) : A3 p c e D2 :=
  ⟨by rw [h1]; exact h.cap, by rw [h2]; exact h.most, h.cl, h.el, by rw [h6, h5, h4, h3]; exact h.ex⟩
theorem nput2 {i k : Nat} : nput [(p, i)] (newP p) k = [(p, i), (newP p, k)] := by simp [nput, blt_new]
theorem mdel3 {i k : Nat} : mdel [(p, i), (newP p, k)] (newP p) = [(p, i)] := by
  have h9 : ¬ p = newP p := fun e => new_ne p e.symm
  simp [mdel, h9]
theorem ap_add {i k : Nat} : Chg.ap ⟨[], newP p, some k⟩ [(p, i)] = [(p, i), (newP p, k)] := by simp only [Chg.ap, if_true]; exact nput2
theorem ap_ren {i k : Nat} : Chg.ap ⟨newP p, p, some k⟩ [(p, i), (newP p, k)] = [(p, k)] := by
  unfold Chg.ap; rw [if_neg (new_nn p), mdel3]; simp [nput, blt_irr]
theorem dir_add {k : Nat} (n1 : nameB p = true) (n2 : nameB (newP p) = true) : Chg.dir ⟨[], newP p, some k⟩ = dirP p := by unfold Chg.dir; rw [if_pos rfl]; exact dirP_new n1 n2
theorem dir_ren {k : Nat} (n1 : nameB p = true) (n2 : nameB (newP p) = true) : Chg.dir ⟨newP p, p, some k⟩ = dirP p := by unfold Chg.dir; rw [if_neg (new_nn p)]; exact dirP_new n1 n2
theorem le1 {j : Nat} (h : j ≤ 1) : j = 0 ∨ j = 1 := by omega
theorem le2 {j : Nat} (h : j ≤ 2) : j = 0 ∨ j = 1 ∨ j = 2 := by omega
theorem A1.crash (h : A1 p c e D) (n1 : nameB p = true) (n2 : nameB (newP p) = true) (picks : List Int) : Fl p c (D.crash picks) := by
  obtain ⟨i, k, y, w, h1, h2, h3, h4, h5, h6, h7, h8, h9⟩ := h.ex
  have hd : ∀ ch ∈ D.log, ch.dir = dirP p := by
    intro ch hc
    rcases h9 with ⟨_, h9⟩ | ⟨_, h9⟩
    · rw [h9, List.mem_singleton] at hc; rw [hc]; exact dir_add n1 n2
    · rw [h9] at hc; cases hc
  obtain ⟨j, hj, hN⟩ := crash_names hd picks
  have hN2 : (D.crashN picks).1 = [(p, i)] ∨ (D.crashN picks).1 = [(p, i), (newP p, k)] := by
    rw [hN]
    rcases h9 with ⟨e1, e2⟩ | ⟨e1, e2⟩
    · rw [e2] at hj ⊢
      rw [e1]
      rcases le1 hj with rfl | rfl
      · exact .inl rfl
      · refine .inr ?_; simp only [List.take_succ_cons, List.take_zero, apl, List.foldl_cons, List.foldl_nil]; exact ap_add
    · rw [e2] at hj ⊢; rw [e1]; simp [apl]
  rcases hN2 with hN2 | hN2
  · have hA : (D.crashA picks).1 = D.fs := by
      unfold Dk.crashA; rw [hN2]; simp only [List.foldl_cons, List.foldl_nil]; rw [crashF_skip (by simp only; rw [h4])]
    exact ⟨h.cap, h.most, rfl, rfl, h.cl, i, by show i < (D.crashA picks).1.length; rw [hA]; exact h1, by show fget (D.crashA picks).1 i = _; rw [hA]; exact h4, .inl hN2⟩
  · have hA0 : D.crashA picks = crashF picks (D.fs, (D.crashN picks).2) (newP p, k) := by
      unfold Dk.crashA; rw [hN2]; simp only [List.foldl_cons, List.foldl_nil]; rw [crashF_skip (x := (p, i)) (by simp only; rw [h4])]
    obtain ⟨q, g1, g2, g3, g4⟩ := crashF_do (picks := picks) (s := (D.fs, (D.crashN picks).2)) (x := (newP p, k)) h2
    simp only at g1 g2 g3 g4
    have hk : ∃ x, fget (D.crashA picks).1 k = ⟨x, x, []⟩ ∧ x.length ≤ 200000 := by
      rw [hA0]
      rcases h6 with h6 | ⟨h6, h6b⟩
      · rw [g4 (by rw [h5, h6]; simp), h5, h6]
        exact ⟨_, rfl, way_len q h.el h7⟩
      · rw [g3 (by rw [h5, h6])]; simp only; rw [h5, h6, h6b]; exact ⟨e, rfl, h.el⟩
    obtain ⟨x, k1, k2⟩ := hk
    refine ⟨h.cap, h.most, rfl, rfl, h.cl, i, ?_, ?_, .inr ⟨k, x, ?_, h3, k1, k2, hN2⟩⟩
    · show i < (D.crashA picks).1.length; rw [hA0, g1]; exact h1
    · show fget (D.crashA picks).1 i = _; rw [hA0, g2 i (Ne.symm h3)]; exact h4
    · show k < (D.crashA picks).1.length; rw [hA0, g1]; exact h2
theorem A3.crash (h : A3 p c e D) (n1 : nameB p = true) (n2 : nameB (newP p) = true) (picks : List Int) : Fl p c (D.crash picks) ∨ Fl p e (D.crash picks) := by
  obtain ⟨i, k, h1, h2, h3, h4, h5, h8, h9⟩ := h.ex
  have hd : ∀ ch ∈ D.log, ch.dir = dirP p := by
    intro ch hc
    rcases h9 with ⟨_, h9⟩ | ⟨_, h9⟩
    · rw [h9] at hc; simp only [List.mem_cons, List.not_mem_nil, or_false] at hc
      rcases hc with hc | hc
      · rw [hc]; exact dir_add n1 n2
      · rw [hc]; exact dir_ren n1 n2
    · rw [h9, List.mem_singleton] at hc; rw [hc]; exact dir_ren n1 n2
  obtain ⟨j, hj, hN⟩ := crash_names hd picks
  have hN2 : (D.crashN picks).1 = [(p, i)] ∨ (D.crashN picks).1 = [(p, i), (newP p, k)] ∨ (D.crashN picks).1 = [(p, k)] := by
    rw [hN]
    rcases h9 with ⟨e1, e2⟩ | ⟨e1, e2⟩
    · rw [e2] at hj ⊢
      rw [e1]
      rcases le2 hj with rfl | rfl | rfl
      · exact .inl rfl
      · refine .inr (.inl ?_); simp only [List.take_succ_cons, List.take_zero, apl, List.foldl_cons, List.foldl_nil]; exact ap_add
      · refine .inr (.inr ?_); simp only [List.take_succ_cons, List.take_zero, apl, List.foldl_cons, List.foldl_nil]; rw [ap_add, ap_ren]
    · rw [e2] at hj ⊢; rw [e1]
      rcases le1 hj with rfl | rfl
      · exact .inr (.inl rfl)
      · refine .inr (.inr ?_); simp only [List.take_succ_cons, List.take_zero, apl, List.foldl_cons, List.foldl_nil]; exact ap_ren
  have hA : (D.crashA picks).1 = D.fs := by
    unfold Dk.crashA
    rcases hN2 with hN2 | hN2 | hN2
    · rw [hN2]; simp only [List.foldl_cons, List.foldl_nil]; rw [crashF_skip (by simp only; rw [h4])]
    · rw [hN2]; simp only [List.foldl_cons, List.foldl_nil]; rw [crashF_skip (x := (p, i)) (by simp only; rw [h4]), crashF_skip (by simp only; rw [h5])]
    · rw [hN2]; simp only [List.foldl_cons, List.foldl_nil]; rw [crashF_skip (by simp only; rw [h5])]
  have li : i < (D.crash picks).fs.length := by show i < (D.crashA picks).1.length; rw [hA]; exact h1
  have lk : k < (D.crash picks).fs.length := by show k < (D.crashA picks).1.length; rw [hA]; exact h2
  have fi : fget (D.crash picks).fs i = ⟨c, c, []⟩ := by show fget (D.crashA picks).1 i = _; rw [hA]; exact h4
  have fk : fget (D.crash picks).fs k = ⟨e, e, []⟩ := by show fget (D.crashA picks).1 k = _; rw [hA]; exact h5
  rcases hN2 with hN2 | hN2 | hN2
  · exact .inl ⟨h.cap, h.most, rfl, rfl, h.cl, i, li, fi, .inl hN2⟩
  · exact .inl ⟨h.cap, h.most, rfl, rfl, h.cl, i, li, fi, .inr ⟨k, e, lk, h3, fk, h.el, hN2⟩⟩
  · exact .inr ⟨h.cap, h.most, rfl, rfl, h.el, k, lk, fk, .inl hN2⟩
/-! ### the steps of making a journal anew -/
theorem mget_one {i : Nat} : mget [(p, i)] (newP p) = none := by simp [mget, new_ne]
theorem mget_two {i k : Nat} : mget [(p, i), (newP p, k)] (newP p) = some k := by simp [mget, new_ne]
theorem mget_fst {i : Nat} {m : Nms} : mget ((p, i) :: m) p = some i := by simp [mget]
def A2 (p : Pth) (c e : List UInt8) (D : Dk) : Prop := A1 p c e D ∧ ∃ k, mget D.now (newP p) = some k ∧ fget D.fs k = ⟨e, e, []⟩
theorem A1.sync (h : A1 p c e D) (hd : D.dead = false) (n2 : nameB (newP p) = true) :
    ((D.sync (newP p)).1 = 11 ∧ (D.sync (newP p)).2.dead = true ∧ A1 p c e (D.sync (newP p)).2 ∧ D.left = 1) ∨ ((D.sync (newP p)).1 = 0 ∧ (D.sync (newP p)).2.dead = false ∧ A2 p c e (D.sync (newP p)).2 ∧ (D.sync (newP p)).2.left = D.left - 1) := by
  rcases begin_cases hd with ⟨b1, b2, b3⟩ | ⟨b1, b2, b3⟩
  · rw [sync_dead b1, b2]
    exact .inl ⟨rfl, rfl, h.of rfl rfl rfl rfl rfl rfl, b3⟩
  · obtain ⟨i, k, y, w, h1, h2, h3, h4, h5, h6, h7, h8, h9⟩ := h.ex
    have hm : mget D.begin.2.now (newP p) = some k := by rw [b2]; show mget D.now _ = _; rw [h8]; exact mget_two
    have hl : D.begin.2.look (newP p) = 0 := by unfold Dk.look; rw [if_pos n2, hm]; rfl
    rw [sync_go b1, hl, hm, b2]
    simp only [if_true]
    have hf : fget D.fs ((some k).getD 0) = ⟨e, y, w⟩ := h5
    refine .inr ⟨trivial, hd, ⟨⟨h.cap, h.most, h.cl, h.el, i, k, e, [], ?_, ?_, h3, ?_, ?_, .inr ⟨rfl, rfl⟩, h.el, h8, h9⟩, k, ?_, ?_⟩, rfl⟩
    · show i < (D.fs.set _ _).length; rw [List.length_set]; exact h1
    · show k < (D.fs.set _ _).length; rw [List.length_set]; exact h2
    · show fget (D.fs.set k _) i = _; rw [fget_set, if_neg (fun q => h3 q.1.symm)]; exact h4
    · show fget (D.fs.set k _) k = _; rw [fget_set, if_pos ⟨rfl, h2⟩]; show Fdt.mk (fget D.fs k).now (fget D.fs k).now [] = _; rw [h5]
    · show mget D.now _ = _; rw [h8]; exact mget_two
    · show fget (D.fs.set k _) k = _; rw [fget_set, if_pos ⟨rfl, h2⟩]; show Fdt.mk (fget D.fs k).now (fget D.fs k).now [] = _; rw [h5]
theorem A2.rename (h : A2 p c e D) (hd : D.dead = false) (n1 : nameB p = true) (n2 : nameB (newP p) = true) :
    ((D.rename (newP p) p).1 = 11 ∧ (D.rename (newP p) p).2.dead = true ∧ A1 p c e (D.rename (newP p) p).2 ∧ D.left = 1) ∨ ((D.rename (newP p) p).1 = 0 ∧ (D.rename (newP p) p).2.dead = false ∧ A3 p c e (D.rename (newP p) p).2 ∧ (D.rename (newP p) p).2.left = D.left - 1) := by
  obtain ⟨h, k', hk1, hk2⟩ := h
  rcases begin_cases hd with ⟨b1, b2, b3⟩ | ⟨b1, b2, b3⟩
  · rw [ren_dead b1, b2]
    exact .inl ⟨rfl, rfl, h.of rfl rfl rfl rfl rfl rfl, b3⟩
  · obtain ⟨i, k, y, w, h1, h2, h3, h4, h5, h6, h7, h8, h9⟩ := h.ex
    have hkk : k' = k := by rw [h8, mget_two] at hk1; exact (Option.some.inj hk1).symm
    rw [hkk] at hk2
    have hm : mget D.begin.2.now (newP p) = some k := by rw [b2]; show mget D.now _ = _; rw [h8]; exact mget_two
    have hl : D.begin.2.renE (newP p) p = 0 := by rw [renE_l n2 n1 (dirP_new n1 n2)]; unfold Dk.look; rw [if_pos n2, hm]; rfl
    rw [ren_go b1, hl, if_pos ⟨rfl, new_ne p⟩, hm, b2]
    refine .inr ⟨rfl, hd, ⟨h.cap, h.most, h.cl, h.el, i, k, h1, h2, h3, h4, hk2, ?_, ?_⟩, rfl⟩
    · show Chg.ap ⟨newP p, p, some k⟩ D.now = [(p, k)]; rw [h8]; exact ap_ren
    · show (D.stays = _ ∧ D.log ++ _ = _) ∨ (D.stays = _ ∧ D.log ++ _ = _)
      rcases h9 with ⟨q1, q2⟩ | ⟨q1, q2⟩
      · exact .inl ⟨q1, by rw [q2]; rfl⟩
      · exact .inr ⟨q1, by rw [q2]; rfl⟩
theorem A3.syncDir (h : A3 p c e D) (hd : D.dead = false) (n1 : nameB p = true) (n2 : nameB (newP p) = true) (hde : dirE (dirP p) = 0) :
    ((D.syncDir (dirP p)).1 = 11 ∧ (D.syncDir (dirP p)).2.dead = true ∧ A3 p c e (D.syncDir (dirP p)).2 ∧ D.left = 1) ∨ ((D.syncDir (dirP p)).1 = 0 ∧ (D.syncDir (dirP p)).2.dead = false ∧ Fl p e (D.syncDir (dirP p)).2 ∧ (D.syncDir (dirP p)).2.left = D.left - 1) := by
  rcases begin_cases hd with ⟨b1, b2, b3⟩ | ⟨b1, b2, b3⟩
  · rw [sd_dead b1, b2]
    exact .inl ⟨rfl, rfl, h.of rfl rfl rfl rfl rfl rfl, b3⟩
  · obtain ⟨i, k, h1, h2, h3, h4, h5, h8, h9⟩ := h.ex
    rw [sd_go b1, hde, b2]
    simp only [if_true]
    have hdn := dirP_new n1 n2
    have hst : merge D.now D.stays (dirP p) = [(p, k)] := by
      unfold merge; rw [h8]
      rcases h9 with ⟨q1, _⟩ | ⟨q1, _⟩
      · rw [q1]; simp [nput]
      · rw [q1]; simp [nput, hdn]
    have hlg : D.log.filter (fun c => !decide (c.dir = dirP p)) = [] := by
      rcases h9 with ⟨_, q1⟩ | ⟨_, q1⟩
      · rw [q1]; simp [dir_add n1 n2, dir_ren n1 n2]
      · rw [q1]; simp [dir_ren n1 n2]
    refine .inr ⟨trivial, hd, ⟨h.cap, h.most, hlg, by show merge D.now D.stays (dirP p) = D.now; rw [hst, h8], h.el, k, h2, h5, .inl h8⟩, rfl⟩
/-! ### the steps of an append -/
structure Q1 (p : Pth) (c d : List UInt8) (D : Dk) : Prop where
  cap : 1048576 ≤ D.cap
  most : 1048576 ≤ D.most
  log : D.log = []
  st : D.stays = D.now
  cl : c.length + d.length ≤ 200000
  ex : ∃ i, i < D.fs.length ∧ fget D.fs i = ⟨c ++ d, c, [⟨true, d⟩]⟩ ∧ (D.now = [(p, i)] ∨ ∃ k x, k < D.fs.length ∧ k ≠ i ∧ fget D.fs k = ⟨x, x, []⟩ ∧ x.length ≤ 200000 ∧ D.now = [(p, i), (newP p, k)])
theorem Q1.of {d : List UInt8} {D2 : Dk} (h : Q1 p c d D) (h1 : D2.cap = D.cap) (h2 : D2.most = D.most) (h3 : D2.log = D.log) (h4 : D2.stays = D.stays) (h5 : D2.now = D.now) (h6 : D2.fs = D.fs) : Q1 p c d D2 :=
  ⟨by rw [h1]; exact h.cap, by rw [h2]; exact h.most, by rw [h3]; exact h.log, by rw [h4, h5]; exact h.st, h.cl, by rw [h6, h5]; exact h.ex⟩
theorem Fl.layA {d : List UInt8} (h : Fl p c D) (hd : D.dead = false) (n1 : nameB p = true) (he : c.length + d.length ≤ 200000) :
    ((D.lay p ⟨true, d⟩).1 = 11 ∧ (D.lay p ⟨true, d⟩).2.dead = true ∧ Fl p c (D.lay p ⟨true, d⟩).2 ∧ D.left = 1) ∨ ((D.lay p ⟨true, d⟩).1 = 0 ∧ (D.lay p ⟨true, d⟩).2.dead = false ∧ Q1 p c d (D.lay p ⟨true, d⟩).2 ∧ (D.lay p ⟨true, d⟩).2.left = D.left - 1) := by
  rcases begin_cases hd with ⟨b1, b2, b3⟩ | ⟨b1, b2, b3⟩
  · rw [lay_dead b1, b2]
    exact .inl ⟨rfl, rfl, h.of rfl rfl rfl rfl rfl rfl, b3⟩
  · rw [lay_go b1, b2]
    obtain ⟨D1, hD1⟩ : ∃ D1 : Dk, D1 = { D with left := D.left - 1, ops := D.ops + 1 } := ⟨_, rfl⟩
    rw [← hD1]
    have h1 : Fl p c D1 := by rw [hD1]; exact h.of rfl rfl rfl rfl rfl rfl
    have hdd : D1.dead = false := by rw [hD1]; exact hd
    have hll : D1.left = D.left - 1 := by rw [hD1]
    have ho : ((⟨true, d⟩ : Wr).on c d.length) = c ++ d := on_t _ _
    have hu := h1.used
    have hE : D1.layE p ⟨true, d⟩ = 0 := layE_0 n1 (by rw [h1.was]; simp only [ho, List.length_append]; have := h1.most; omega) (by rw [h1.was]; simp only [ho, List.length_append]; have := h1.cap; have := h1.cl; omega)
    rw [hE]; simp only [if_true]
    refine .inr ⟨trivial, ?_⟩
    obtain ⟨i, e1, e2, e3⟩ := h1.ex
    have hm : mget D1.now p = some i := by
      rcases e3 with e3 | ⟨k, x, _, _, _, _, e3⟩
      · rw [e3]; exact mget_fst
      · rw [e3]; exact mget_fst
    have hw : D1.write p ⟨true, d⟩ = D1.putF i ⟨c ++ d, c, [⟨true, d⟩]⟩ := by
      unfold Dk.write Dk.make; rw [hm]; simp only; rw [e2, ho]; rfl
    rw [hw]
    refine ⟨hdd, ⟨h1.cap, h1.most, h1.log, h1.st, he, i, ?_, ?_, ?_⟩, hll⟩
    · show i < (D1.fs.set _ _).length; rw [List.length_set]; exact e1
    · show fget (D1.fs.set _ _) i = _; rw [fget_set, if_pos ⟨rfl, e1⟩]
    · rcases e3 with e3 | ⟨k, x, k1, k2, k3, k4, e3⟩
      · exact .inl e3
      · exact .inr ⟨k, x, by show k < (D1.fs.set _ _).length; rw [List.length_set]; exact k1, k2, by show fget (D1.fs.set _ _) k = _; rw [fget_set, if_neg (fun h => k2 h.1)]; exact k3, k4, e3⟩
theorem Q1.sync {d : List UInt8} (h : Q1 p c d D) (hd : D.dead = false) (n1 : nameB p = true) :
    ((D.sync p).1 = 11 ∧ (D.sync p).2.dead = true ∧ Q1 p c d (D.sync p).2 ∧ D.left = 1) ∨ ((D.sync p).1 = 0 ∧ (D.sync p).2.dead = false ∧ Fl p (c ++ d) (D.sync p).2 ∧ (D.sync p).2.left = D.left - 1) := by
  rcases begin_cases hd with ⟨b1, b2, b3⟩ | ⟨b1, b2, b3⟩
  · rw [sync_dead b1, b2]
    exact .inl ⟨rfl, rfl, h.of rfl rfl rfl rfl rfl rfl, b3⟩
  · obtain ⟨i, e1, e2, e3⟩ := h.ex
    have hm0 : mget D.now p = some i := by
      rcases e3 with e3 | ⟨k, x, _, _, _, _, e3⟩
      · rw [e3]; exact mget_fst
      · rw [e3]; exact mget_fst
    have hm : mget D.begin.2.now p = some i := by rw [b2]; exact hm0
    have hl : D.begin.2.look p = 0 := by unfold Dk.look; rw [if_pos n1, hm]; rfl
    rw [sync_go b1, hl, hm, b2]
    simp only [if_true]
    refine .inr ⟨trivial, hd, ⟨h.cap, h.most, h.log, h.st, by rw [List.length_append]; exact h.cl, i, ?_, ?_, ?_⟩, rfl⟩
    · show i < (D.fs.set _ _).length; rw [List.length_set]; exact e1
    · show fget (D.fs.set i _) i = _; rw [fget_set, if_pos ⟨rfl, e1⟩]; show Fdt.mk (fget D.fs i).now (fget D.fs i).now [] = _; rw [e2]
    · rcases e3 with e3 | ⟨k, x, k1, k2, k3, k4, e3⟩
      · exact .inl e3
      · exact .inr ⟨k, x, by show k < (D.fs.set _ _).length; rw [List.length_set]; exact k1, k2, by show fget (D.fs.set i _) k = _; rw [fget_set, if_neg (fun h => k2 h.1)]; exact k3, k4, e3⟩
theorem Q1.crash {d : List UInt8} (h : Q1 p c d D) (picks : List Int) : ∃ a z, a + z ≤ d.length ∧ Fl p (c ++ d.take a ++ List.replicate z 0) (D.crash picks) := by
  have hN : D.crashN picks = (D.now, 0) := by unfold Dk.crashN Dk.dirty; rw [h.log, h.st]; rfl
  obtain ⟨i, h1, h2, h3⟩ := h.ex
  obtain ⟨q, g1, g2, g3, g4⟩ := crashF_do (picks := picks) (s := (D.fs, 0)) (x := (p, i)) h1
  simp only at g1 g2 g3 g4
  have hA : D.crashA picks = crashF picks (D.fs, 0) (p, i) := by
    unfold Dk.crashA; rw [hN]
    rcases h3 with h3 | ⟨k, x, k1, k2, k3, k4, h3⟩
    · rw [h3]; rfl
    · rw [h3]; simp only [List.foldl_cons, List.foldl_nil]; rw [crashF_skip (x := (newP p, k)) (by simp only; rw [g2 k k2, k3])]
  obtain ⟨a, z, haz, hw⟩ := way_form d c q
  have g5 := g4 (by rw [h2]; simp)
  rw [h2] at g5
  simp only [hw] at g5
  refine ⟨a, z, haz, h.cap, h.most, rfl, rfl, ?_, i, ?_, ?_, ?_⟩
  · simp only [List.length_append, List.length_take, List.length_replicate]; have := h.cl; omega
  · show i < (D.crashA picks).1.length; rw [hA, g1]; exact h1
  · show fget (D.crashA picks).1 i = _; rw [hA]; exact g5
  · show (D.crashN picks).1 = _ ∨ ∃ k x, k < (D.crashA picks).1.length ∧ k ≠ i ∧ fget (D.crashA picks).1 k = _ ∧ _ ∧ (D.crashN picks).1 = _
    rw [hA, hN]
    rcases h3 with h3 | ⟨k, x, k1, k2, k3, k4, h3⟩
    · exact .inl h3
    · exact .inr ⟨k, x, by rw [g1]; exact k1, k2, by rw [g2 k k2]; exact k3, k4, h3⟩
/-- bytes are these records, whatever stands behind them -/
def Pj (l : List Rec) (c : List UInt8) : Prop := ∃ t, c = encW l ++ t ∧ oneW l.length t = none
theorem Pj.enc (l : List Rec) : Pj l (encW l) := ⟨[], by rw [List.append_nil], by simp [oneW]⟩
theorem Pj.par (h : Pj l c) (hl : ∀ r ∈ l, r.length ≤ 1048576) : parE c = 0 ∧ parL c = l := by
  obtain ⟨t, rfl, ht⟩ := h
  have := parL_enc l t hl
  rw [parP_stop ht, List.append_nil] at this
  exact ⟨parE_enc l t, this⟩
theorem rec_fl (h : Fl p (encW l) D) (hd : D.dead = false) (n1 : nameB p = true) (he : (encW l).length + 13 + r.length ≤ 200000) (hr : r.length ≤ 1048576) :
    ((runD (apS p l.length r) D).1 = 0 ∧ Fl p (encW (l ++ [r])) (runD (apS p l.length r) D).2 ∧ (runD (apS p l.length r) D).2.dead = false ∧ (D.left = 0 → (runD (apS p l.length r) D).2.left = 0)) ∨ ((runD (apS p l.length r) D).1 = 11 ∧ (runD (apS p l.length r) D).2.dead = true ∧ D.left ≠ 0 ∧ ∀ picks, ∃ c, (Pj l c ∨ Pj (l ++ [r]) c) ∧ Fl p c ((runD (apS p l.length r) D).2.crash picks)) := by
  have hl := layW_len l.length r
  unfold apS
  rcases h.layA hd n1 (d := layW l.length r) (by omega) with ⟨a1, a2, a3, a4⟩ | ⟨a1, a2, a3, a4⟩
  · rw [runD_c1 (by rw [a1]; decide)]
    exact .inr ⟨a1, a2, by omega, fun picks => ⟨_, .inl (Pj.enc l), (a3.crash picks).1⟩⟩
  rw [runD_c0 a1]
  rcases a3.sync a2 n1 with ⟨s1, s2, s3, s4⟩ | ⟨s1, s2, s3, s4⟩
  · rw [runD_c1 (by rw [s1]; decide)]
    refine .inr ⟨s1, s2, by omega, fun picks => ?_⟩
    obtain ⟨a, z, haz, hf⟩ := s3.crash picks
    refine ⟨_, .inl ⟨(layW l.length r).take a ++ List.replicate z 0, by rw [List.append_assoc], ?_⟩, hf⟩
    by_cases ha : a ≤ (layW l.length r).length
    · exact torn_none _ _ _ _ (by omega) hr
    · omega
  rw [runD_c0 s1]
  rcases s3.layA s2 n1 (d := [67]) (by rw [List.length_append, List.length_singleton]; omega) with ⟨m1, m2, m3, m4⟩ | ⟨m1, m2, m3, m4⟩
  · rw [runD_c1 (by rw [m1]; decide)]
    exact .inr ⟨m1, m2, by omega, fun picks => ⟨_, .inl ⟨layW l.length r, rfl, lay_none _ _ hr⟩, (m3.crash picks).1⟩⟩
  rw [runD_c0 m1]
  rcases m3.sync m2 n1 with ⟨y1, y2, y3, y4⟩ | ⟨y1, y2, y3, y4⟩
  · rw [runD_c1 (by rw [y1]; decide)]
    refine .inr ⟨y1, y2, by omega, fun picks => ?_⟩
    obtain ⟨a, z, haz, hf⟩ := y3.crash picks
    simp only [List.length_singleton] at haz
    refine ⟨_, ?_, hf⟩
    rcases (show (a = 0 ∧ z = 0) ∨ (a = 0 ∧ z = 1) ∨ (a = 1 ∧ z = 0) by omega) with ⟨rfl, rfl⟩ | ⟨rfl, rfl⟩ | ⟨rfl, rfl⟩
    · exact .inl ⟨layW l.length r, by simp, lay_none _ _ hr⟩
    · exact .inl ⟨layW l.length r ++ [0], by simp, lay0_none _ _ hr⟩
    · refine .inr ⟨[], ?_, by simp [oneW]⟩
      rw [encW_snoc, recW]; simp
  rw [runD_c0 y1, runD_nil]
  refine .inl ⟨rfl, ?_, y2, fun h0 => by rw [y4, m4, s4, a4]; omega⟩
  show Fl p _ _
  rw [encW_snoc, recW, ← List.append_assoc]; exact y3
/-- a journal that was just made -/
theorem start_fl {cap most : Nat} (n1 : nameB p = true) (n2 : nameB (newP p) = true) (hde : dirE (dirP p) = 0) (hc : 1048576 ≤ cap) (hm : 1048576 ≤ most) : (openD (Dk.empty cap most) p).1 = 0 ∧ (openD (Dk.empty cap most) p).2.1 = [] ∧ Fl p (encW []) (openD (Dk.empty cap most) p).2.2 ∧ (openD (Dk.empty cap most) p).2.2.dead = false ∧ (openD (Dk.empty cap most) p).2.2.left = 0 := by
  have hr : (Dk.empty cap most).readE p = 2 := by simp [Dk.readE, Dk.empty, Dk.look, n1, mget]
  rw [open_b n1 n2 hr]
  unfold freshD frS
  have e1 : (Dk.empty cap most).lay (newP p) ⟨false, encW []⟩ = (0, ⟨cap, most, [⟨encW [], [], [⟨false, encW []⟩]⟩], [(newP p, 0)], [], [⟨[], newP p, some 0⟩], 1, 0, false⟩) := by
    unfold Dk.empty
    rw [lay_a n2 (by simp only [on_f]; show 8 ≤ most; omega) (by simp only [on_f]; simp [usedL, Dk.wasL, mget]; show 8 ≤ cap; omega)]
    rw [write_two (k := 0) rfl]
    simp [nput, on_f]
  rw [runD_c0 (by rw [e1]), e1]
  have hm2 : mget [(newP p, 0)] (newP p) = some 0 := by simp [mget]
  have e2 : Dk.sync ⟨cap, most, [⟨encW [], [], [⟨false, encW []⟩]⟩], [(newP p, 0)], [], [⟨[], newP p, some 0⟩], 1, 0, false⟩ (newP p) = (0, ⟨cap, most, [⟨encW [], encW [], []⟩], [(newP p, 0)], [], [⟨[], newP p, some 0⟩], 2, 0, false⟩) := by
    simp [Dk.sync, Dk.begin, Dk.look, n2, mget, Dk.syncF, Dk.putF, fget]
  rw [runD_c0 (by rw [e2]), e2]
  have e3 : Dk.rename ⟨cap, most, [⟨encW [], encW [], []⟩], [(newP p, 0)], [], [⟨[], newP p, some 0⟩], 2, 0, false⟩ (newP p) p = (0, ⟨cap, most, [⟨encW [], encW [], []⟩], [(p, 0)], [], [⟨[], newP p, some 0⟩, ⟨newP p, p, some 0⟩], 3, 0, false⟩) := by
    simp [Dk.rename, Dk.begin, Dk.renE, n1, n2, dirP_new n1 n2, Dk.look, mget, new_ne, Dk.change, Chg.ap, new_nn, mdel, nput]
  rw [runD_c0 (by rw [e3]), e3]
  have e4 : Dk.syncDir ⟨cap, most, [⟨encW [], encW [], []⟩], [(p, 0)], [], [⟨[], newP p, some 0⟩, ⟨newP p, p, some 0⟩], 3, 0, false⟩ (dirP p) = (0, ⟨cap, most, [⟨encW [], encW [], []⟩], [(p, 0)], [(p, 0)], [], 4, 0, false⟩) := by
    simp [Dk.syncDir, Dk.begin, hde, Dk.stayD, merge, nput, dir_add n1 n2, dir_ren n1 n2]
  rw [runD_c0 (by rw [e4]), e4, runD_nil]
  exact ⟨rfl, rfl, ⟨hc, hm, rfl, rfl, by show 8 ≤ 200000; omega, 0, by simp, by simp [fget], .inl rfl⟩, rfl, rfl⟩
end

end Go.Proofs.YtdliddjkacbggaaGreatDoor.WalM
/-
  A journal: records that are appended, in whatever turns it is opened anew, are all there.
-/
namespace Go.Proofs.YtdliddjkacbggaaGreatDoor.WalN
open Go.Proofs.YtdliddjkacbggaaGreatDoor.E Go.RowKit Go.Proofs.YtdliddjkacbggaaGreatDoor.SimA Go.Proofs.YtdliddjkacbggaaGreatDoor.SimB Go.Proofs.YtdliddjkacbggaaGreatDoor.SimC Go.Proofs.YtdliddjkacbggaaGreatDoor.SimD Go.Proofs.YtdliddjkacbggaaGreatDoor.SimE Go.Proofs.YtdliddjkacbggaaGreatDoor.SimF Go.Proofs.YtdliddjkacbggaaGreatDoor.SimG Go.Proofs.YtdliddjkacbggaaGreatDoor.SimH Go.Proofs.YtdliddjkacbggaaGreatDoor.SimI Go.Proofs.YtdliddjkacbggaaGreatDoor.SimP Go.Proofs.YtdliddjkacbggaaGreatDoor.SimQ Go.Proofs.YtdliddjkacbggaaGreatDoor.SimR Go.Proofs.YtdliddjkacbggaaGreatDoor.SimS Go.Proofs.YtdliddjkacbggaaGreatDoor.SimU Go.Proofs.YtdliddjkacbggaaGreatDoor.SimY Go.Proofs.YtdliddjkacbggaaGreatDoor.SimYA Go.Proofs.YtdliddjkacbggaaGreatDoor.SimYE Go.Proofs.YtdliddjkacbggaaGreatDoor.WalA Go.Proofs.YtdliddjkacbggaaGreatDoor.WalB Go.Proofs.YtdliddjkacbggaaGreatDoor.WalC Go.Proofs.YtdliddjkacbggaaGreatDoor.WalD Go.Proofs.YtdliddjkacbggaaGreatDoor.WalE Go.Proofs.YtdliddjkacbggaaGreatDoor.WalF Go.Proofs.YtdliddjkacbggaaGreatDoor.WalG Go.Proofs.YtdliddjkacbggaaGreatDoor.WalH Go.Proofs.YtdliddjkacbggaaGreatDoor.WalI Go.Proofs.YtdliddjkacbggaaGreatDoor.WalJ Go.Proofs.YtdliddjkacbggaaGreatDoor.WalK Go.Proofs.YtdliddjkacbggaaGreatDoor.WalL Go.Proofs.YtdliddjkacbggaaGreatDoor.WalM
set_option maxRecDepth 20000
set_option linter.unusedVariables false
set_option linter.unusedSimpArgs false
set_option linter.unusedSectionVars false
set_option maxRecDepth 100000 in
theorem inf22 : Inf Tryz.prog 22 34 1 24 := ⟨Tryz.underlying22, _, _, rfl, rfl, rfl, rfl, rfl⟩
set_option maxRecDepth 100000 in
theorem inf39 : Inf Tryz.prog 39 3 1 8 := ⟨Tryz.underlying39, _, _, rfl, rfl, rfl, rfl, rfl⟩

theorem bs_open2 {N M : Nat} {D : Dk} (h : Bs N D) (p : Pth) (hM : (D.readL p).length + 8 ≤ M) : Bs (N + 4 * (M + 28)) (openD D p).2.2 := by
  have h1 := (encN_parL_le (D.readL p)).2
  unfold openD
  split
  · exact h.mono (by omega)
  split
  · exact (bs_fresh h p []).mono (by simp [encW, W8, encN]; omega)
  split
  · exact h.mono (by omega)
  split
  · exact h.mono (by omega)
  split
  · exact (bs_fresh h p _).mono (by omega)
  · exact h.mono (by omega)
theorem readL_le (D : Dk) (p : Pth) : (D.readL p).length ≤ (D.wasL p).length := by unfold Dk.readL; split; exact Nat.le_refl _; simp
theorem fl_rdl {p : Pth} {c : List UInt8} {D : Dk} (h : Fl p c D) : (D.readL p).length ≤ c.length := by rw [← h.was]; exact readL_le D p
theorem app_fl {p : Pth} {l : List Rec} {r : Rec} {D : Dk} (h : Fl p (encW l) D) (hd : D.dead = false) (h0 : D.left = 0) (n1 : nameB p = true) (he : (encW l).length + 13 + r.length ≤ 200000) (hr : r.length ≤ 1048576) :
    (appD D p l.length false r).1 = 0 ∧ (appD D p l.length false r).2.1 = l.length + 1 ∧ (appD D p l.length false r).2.2.1 = false ∧ Fl p (encW (l ++ [r])) (appD D p l.length false r).2.2.2 ∧ (appD D p l.length false r).2.2.2.dead = false ∧ (appD D p l.length false r).2.2.2.left = 0 := by
  rw [app_go (pre_0 rfl)]
  rcases rec_fl h hd n1 he hr with ⟨a1, a2, a3, a4⟩ | ⟨_, _, a3, _⟩
  · rw [if_pos a1, if_pos a1]; exact ⟨a1, rfl, rfl, a2, a3, a4 h0⟩
  · exact absurd h0 a3
/-- a whole journal is opened as it is -/
theorem open_fl1 {p : Pth} {l : List Rec} {D : Dk} (h : Fl p (encW l) D) (hl : ∀ r ∈ l, r.length ≤ 1048576) (hd : D.dead = false) (n1 : nameB p = true) (n2 : nameB (newP p) = true) : openD D p = (0, l, D) := by
  obtain ⟨p1, p2⟩ := (Pj.enc l).par hl
  obtain ⟨i, g1, g2, g3⟩ := h.get
  obtain ⟨r1, r2⟩ := read_of hd n1 g1 (x := encW l) (by rw [g3])
  rw [← r2] at p1 p2
  have hs : ¬ parS (D.readL p) < (D.readL p).length := by
    unfold parS; unfold parE at p1; split at p1
    · rename_i h8; rw [if_pos h8, p2, r2]; omega
    · cases p1
  rw [open_f n1 n2 r1 p1 hs, p2]

set_option maxHeartbeats 4000000 in
theorem walAppends_ct (mx_ : Int) (s0 s1 : SV) (l : List (SV × Rec)) (bo : List Bool) (w0 : World) (H0 : Heap)
    (mx : MX mx_ H0) (bf_mx : BF (fun b => b = 0) H0.size) (hl : RdT H0 fP 1 s0.v l) (hx : ∀ x ∈ l, RdT H0 fB 1 x.1.v x.2) (hbo : RdT H0 fBo 1 s1.v bo) :
    Ct Tryz.prog w0 3 #[s0.v, s1.v] H0 (fun r H2 => r = .bool true ∧ Nw H0 H2) := by
  refine Ct.enter (args := [s0.v, s1.v]) Tryz.func3 rfl rfl rfl ?_
  intro Q0 hret
  have hm0 : Nw H0 H0 := Mo.refl _ _
  replace hl := hl.bnd
  have bf_hl := hl.bf
  replace hx := fun x hx0 => (hx x hx0).bnd
  have bf_hx : BF (fun b => True ∧ b < H0.size) H0.size := fun b h => h.2
  replace hbo := hbo.bnd
  have bf_hbo := hbo.bf
  refine CW.seq (fun K1 hK1 hE1 => ?_)
  refine CW.region ?_
  refine LR.v (Y.assign rfl rfl) (Wd.u rfl) rfl rfl ?_
  refine LR.nil ?_
  refine hK1 _ _ ?_
  refine CW.seq (fun K2 hK2 hE2 => ?_)
  refine CW.seq (fun K3 hK3 hE3 => ?_)
  refine CW.region ?_
  -- call selvage/selvagelaw3.known
  refine LR.call rfl Tryz.call6 rfl (Wd.u rfl) rfl rfl (known3_ct mx_ w0 _ mx bf_mx) (fun v12 H12 r12 => ?_)
  obtain ⟨rfl, hs12⟩ := r12
  replace mx := mx.nw hs12
  replace hl := hl.nw hs12
  replace hx := fun x hx0 => (hx x hx0).nw hs12
  replace hbo := hbo.nw hs12
  replace hm0 := hm0.tr hs12
  have hz1 := hs12.size
  refine LR.v (Y.not rfl rfl) (Wd.u rfl) rfl rfl ?_
  refine LR.nil ?_
  refine hK3 _ _ ?_
  refine CW.cond_f rfl ?_
  refine CW.skip ?_
  refine hK2 _ _ ?_
  refine CW.seq (fun K4 hK4 hE4 => ?_)
  refine CW.region ?_
  refine LR.v (Y.move rfl rfl) (Wd.u rfl) rfl rfl ?_
  -- call selvage/selvagelaw3.few
  refine LR.call rfl Tryz.call7 rfl (Wd.u rfl) rfl rfl (few_ct s0 l w0 _ hl.any (fun x h => (hx x h).any)) (fun v15 H15 r15 => ?_)
  obtain ⟨t15, m, rfl, hrm, hm, hxm, hs15⟩ := r15
  replace mx := mx.nw hs15
  replace hl := hl.nw hs15
  replace hx := fun x hx0 => (hx x hx0).nw hs15
  replace hbo := hbo.nw hs15
  replace hm0 := hm0.tr hs15
  have hz2 := hs15.size
  replace hm := hm.bnd
  have bf_hm := hm.bf
  replace hxm := fun x hx_ => (hxm x hx_).bnd
  have bf_hxm : BF (fun b => H12.size ≤ b ∧ b < H15.size) H15.size := fun b h => h.2
  have hfe := few_enc (recs l)
  have hfm : ∀ x ∈ m, x.2.length < 3000 := fun x h => few_mem (l := recs l) _ (by rw [← hrm]; exact List.mem_map_of_mem h)
  rw [← hrm] at hfe
  refine LR.v (Y.assign rfl rfl) (Wd.u rfl) rfl rfl ?_
  refine LR.nil ?_
  refine hK4 _ _ ?_
  refine CW.seq (fun K5 hK5 hE5 => ?_)
  refine CW.region ?_
  -- call selvage/simfs.New
  refine LR.call rfl Tryz.call8 rfl (Wd.u rfl) rfl rfl (new_ct 1048576 1048576 w0 _ (by decide) (by decide)) (fun v17 H17 r17 => ?_)
  obtain ⟨Q17, g17, b17, rfl, hf, hkn17, hs17⟩ := r17
  have df1 := DFL.appK (DFL.nil) (bf_mx.mono hm0.size) hkn17
  have df2 := DFL.appK (DFL.nil) (bf_hl.mono hm0.size) hkn17
  have df3 := DFL.appK (DFL.nil) (bf_hx.mono hm0.size) hkn17
  have df4 := DFL.appK (DFL.nil) (bf_hbo.mono hm0.size) hkn17
  have df5 := DFL.appK (DFL.nil) (bf_hm.mono (by omega)) hkn17
  have df6 := DFL.appK (DFL.nil) (bf_hxm.mono (by omega)) hkn17
  have nx7 : NxK [] H0.size Q17 := NxK.tr (NxK.refl [] _) hkn17 hm0.size
  replace mx := mx.nw hs17
  replace hl := hl.nw hs17
  replace hx := fun x hx0 => (hx x hx0).nw hs17
  replace hbo := hbo.nw hs17
  replace hm := hm.nw hs17
  replace hxm := fun x hx_ => (hxm x hx_).nw hs17
  replace hm0 := hm0.tr hs17
  have hz3 := hs17.size
  have hbk_hf := hf.bk
  have hS17 := Bs.empty 1048576 1048576
  have hst := start_fl (cap := 1048576) (most := 1048576) (p := [106]) (by decide) (by decide) (by decide) (by decide) (by decide)
  refine LR.v (Y.move rfl rfl) (Wd.u rfl) rfl rfl ?_
  refine LR.v (Y.extract rfl rfl rfl) (Wd.u rfl) rfl rfl ?_
  refine LR.v (Y.extract rfl rfl rfl) (Wd.u rfl) rfl rfl ?_
  refine LR.v (Y.assign rfl rfl) (Wd.u rfl) rfl rfl ?_
  refine LR.v (Y.assign rfl rfl) (Wd.u rfl) rfl rfl ?_
  refine LR.nil ?_
  refine hK5 _ _ ?_
  refine CW.seq (fun K6 hK6 hE6 => ?_)
  refine CW.seq (fun K7 hK7 hE7 => ?_)
  refine CW.region ?_
  refine LR.v (Y.move rfl rfl) (Wd.u rfl) rfl rfl ?_
  refine LR.v (Y.peq rfl (by kernel_rfl) (by kernel_rfl) rfl rfl) (Wd.u rfl) rfl rfl ?_
  refine LR.nil ?_
  refine hK7 _ _ ?_
  refine CW.cond_f rfl ?_
  refine CW.skip ?_
  refine hK6 _ _ ?_
  refine CW.seq (fun K8 hK8 hE8 => ?_)
  refine CW.region ?_
  refine LR.v (Y.move rfl rfl) (Wd.u rfl) rfl rfl ?_
  -- call selvage/wal.Open
  refine LR.call rfl Tryz.call9 rfl (Wd.u rfl) rfl rfl (wopen_ok mx_ Q17 g17 b17 (Dk.empty 1048576 1048576) [106] _ w0 _ hf mx (bf_mx.mono (by omega)) (df1) (by decide) hS17 (by decide) hst.1) (fun v24 H24 r24 => ?_)
  have ql8 := hf.bk
  obtain ⟨lb24, t24, l24, Q24, g24, G24, rfl, hf, hkd24, hlg, hkl24, dl224, hrl24, hw24, hx24, hGb24, hGf24, hGk24, hGl24, hs24⟩ := r24
  have df9 := DFL.appK (df1) (bf_mx.mono hm0.size) hkd24
  have df10 := DFL.appK (df2) (bf_hl.mono hm0.size) hkd24
  have df11 := DFL.appK (df3) (bf_hx.mono hm0.size) hkd24
  have df12 := DFL.appK (df4) (bf_hbo.mono hm0.size) hkd24
  have df13 := DFL.appK (df5) (bf_hm.mono (by omega)) hkd24
  have df14 := DFL.appK (df6) (bf_hxm.mono (by omega)) hkd24
  have nx15 : NxK [] H0.size Q24 := NxK.tr (nx7) hkd24 hm0.size
  have df16 := DF.app (DF.z) (bf_mx.mono hm0.size) hkl24
  have df17 := DF.app (DF.z) (bf_hl.mono hm0.size) hkl24
  have df18 := DF.app (DF.z) (bf_hx.mono hm0.size) hkl24
  have df19 := DF.app (DF.z) (bf_hbo.mono hm0.size) hkl24
  have df20 := DF.app (DF.z) (bf_hm.mono (by omega)) hkl24
  have df21 := DF.app (DF.z) (bf_hxm.mono (by omega)) hkl24
  have dj22 : DL (lb24 + 1) Q17 := DL.app2 (DL.zK) ql8 hkl24
  have nx23 : Nx 0 H0.size (lb24 + 1) := Nx.tr (Nx.refl 0 _) hkl24 hm0.size
  replace mx := mx.upL hs24 (df1)
  replace hl := hl.upL hs24 (df2)
  replace hx := fun x hx0 => (hx x hx0).upL hs24 (df3)
  replace hbo := hbo.upL hs24 (df4)
  replace hm := hm.upL hs24 (df5)
  replace hxm := fun x hx_ => (hxm x hx_).upL hs24 (df6)
  replace hm0 := (Mo.trL (ks := []) (hm0.mdn []) hs24 (MIL.ofK0 (nx7))).nil
  have hz4 := hs24.size
  have hbk_hf := hf.bk
  have hle_hlg := hlg.le
  have bf_hw24 := hGb24
  have bf_hx24 := hGb24
  have hml : m.length ≤ 20 := by have h1 := few_len (recs l); rw [← hrm] at h1; simpa [recs] using h1
  have hmm : ∀ r ∈ recs m, r.length < 3000 := fun r h => by rw [hrm] at h; exact few_mem r h
  have hmk : (recs m).length = m.length := by simp [recs]
  have hS24 := bs_open hS17 [106]
  rw [hst.2.1] at hrl24
  have hl0 : l24.length = 0 := by have := congrArg List.length hrl24; simpa [recs] using this
  refine LR.v (Y.move rfl rfl) (Wd.u rfl) rfl rfl ?_
  refine LR.v (Y.extract rfl rfl rfl) (Wd.u rfl) rfl rfl ?_
  refine LR.v (Y.extract rfl rfl rfl) (Wd.u rfl) rfl rfl ?_
  refine LR.v (Y.extract rfl rfl rfl) (Wd.u rfl) rfl rfl ?_
  refine LR.v (Y.assign rfl rfl) (Wd.u rfl) rfl rfl ?_
  refine LR.v (Y.assign rfl rfl) (Wd.u rfl) rfl rfl ?_
  refine LR.v (Y.assign rfl rfl) (Wd.u rfl) rfl rfl ?_
  refine LR.nil ?_
  refine hK8 _ _ ?_
  refine CW.seq (fun K9 hK9 hE9 => ?_)
  refine CW.seq (fun K10 hK10 hE10 => ?_)
  refine CW.region ?_
  refine LR.v (Y.move rfl rfl) (Wd.u rfl) rfl rfl ?_
  refine LR.v ((Y.neq rfl rfl rfl).isF ((fun h => h rfl))) (Wd.u rfl) rfl rfl ?_
  refine LR.nil ?_
  refine hK10 _ _ ?_
  refine CW.cond_f rfl ?_
  refine CW.skip ?_
  refine hK9 _ _ ?_
  refine CW.seq (fun K11 hK11 hE11 => ?_)
  refine CW.seq (fun K12 hK12 hE12 => ?_)
  refine CW.region ?_
  refine LR.v (Y.assign rfl rfl) (Wd.u rfl) rfl rfl ?_
  refine LR.nil ?_
  refine hK12 _ _ ?_
  refine CW.block (fun K13 hK13 hX13 hE13 => ?_)
  refine CW.loop (fun (s_ : (Nat) × (List Nat) × (Gh) × (Dk) × (Nat)) => match s_ with | (i, Ki, gi, Di, lb) => [(0, t15.v), (1, s1.v), (5, ptr b17), (7, ptr lb), (10, .int .i64 (i : Int))])
    (fun (s_ : (Nat) × (List Nat) × (Gh) × (Dk) × (Nat)) (H : Heap) => match s_ with | (i, Ki, gi, Di, lb) => (PDk Ki gi H b17 Di) ∧ (Var 76 H lb [ptr b17, Str [106], .int .i64 (i : Int), .bool false]) ∧ (i ≤ m.length) ∧ (Fl [106] (encW (recs (m.take (i)))) Di ∧ Di.dead = false ∧ Di.left = 0) ∧ (Bs (112 + i * 600000) Di) ∧ (NxK Q24 H24.size Ki) ∧ (Nx (lb24 + 1) H24.size ((lb + 1))) ∧ (DL ((lb + 1)) Ki) ∧ Mo (Ms (Q24 ++ [(lb24 + 1)])) H24 H)
    (fun (s_ : (Nat) × (List Nat) × (Gh) × (Dk) × (Nat)) => match s_ with | (i, Ki, gi, Di, lb) => m.length - i) (0, Q24, g24, (openD (Dk.empty 1048576 1048576) [106]).2.2, lb24) ⟨rfl, rfl, rfl, rfl, rfl, trivial⟩ ?_ ?_
  ·
    exact ⟨hf, by rw [hl0] at hlg; exact hlg, (by omega), hst.2.2, hS24.mono (by omega), NxK.refl _ _, Nx.refl _ _, dl224, Mo.refl _ _⟩
  rintro ⟨i, Ki, gi, Di, lb⟩ HL1 hI1 K14 hN14 hE14
  obtain ⟨hf, hlg, hi, hfl, hB, nxl_hf, nxl_hlg, dj_hf_hlg, hlm1⟩ := hI1
  have df24 := DFL.appK (df9) (bf_mx.mono hm0.size) nxl_hf
  have df25 := DFL.appK (df10) (bf_hl.mono hm0.size) nxl_hf
  have df26 := DFL.appK (df11) (bf_hx.mono hm0.size) nxl_hf
  have df27 := DFL.appK (df12) (bf_hbo.mono hm0.size) nxl_hf
  have df28 := DFL.appK (df13) (bf_hm.mono (by omega)) nxl_hf
  have df29 := DFL.appK (df14) (bf_hxm.mono (by omega)) nxl_hf
  have df30 := DFL.appK (hGk24) (bf_hw24.mono (by omega)) nxl_hf
  have df31 := DFL.appK (hGk24) (bf_hx24.mono (by omega)) nxl_hf
  have nx32 : NxK [] H0.size Ki := NxK.tr (nx15) nxl_hf hm0.size
  have df33 := DF.app (df16) (bf_mx.mono hm0.size) nxl_hlg
  have df34 := DF.app (df17) (bf_hl.mono hm0.size) nxl_hlg
  have df35 := DF.app (df18) (bf_hx.mono hm0.size) nxl_hlg
  have df36 := DF.app (df19) (bf_hbo.mono hm0.size) nxl_hlg
  have df37 := DF.app (df20) (bf_hm.mono (by omega)) nxl_hlg
  have df38 := DF.app (df21) (bf_hxm.mono (by omega)) nxl_hlg
  have df39 := DF.app (hGl24) (bf_hw24.mono (by omega)) nxl_hlg
  have df40 := DF.app (hGl24) (bf_hx24.mono (by omega)) nxl_hlg
  have nx41 : Nx 0 H0.size ((lb + 1)) := Nx.tr (nx23) nxl_hlg hm0.size
  replace mx := mx.upL hlm1 (DFL.app df9 (DFL.cons df16 DFL.nil))
  replace hl := hl.upL hlm1 (DFL.app df10 (DFL.cons df17 DFL.nil))
  replace hx := fun x hx0 => (hx x hx0).upL hlm1 (DFL.app df11 (DFL.cons df18 DFL.nil))
  replace hbo := hbo.upL hlm1 (DFL.app df12 (DFL.cons df19 DFL.nil))
  replace hm := hm.upL hlm1 (DFL.app df13 (DFL.cons df20 DFL.nil))
  replace hxm := fun x hx_ => (hxm x hx_).upL hlm1 (DFL.app df14 (DFL.cons df21 DFL.nil))
  replace hw24 := hw24.upL hlm1 (DFL.app hGk24 (DFL.cons hGl24 DFL.nil))
  replace hx24 := fun x hx_ => (hx24 x hx_).upL hlm1 (DFL.app hGk24 (DFL.cons hGl24 DFL.nil))
  replace hm0 := (Mo.trL (ks := []) (hm0.mdn []) hlm1 (MIL.app (MIL.ofK0 (nx15)) (MIL.cons (MI.app MI.z (nx23) (Nat.le_refl _)) MIL.nil))).nil
  have hz5 := hlm1.size
  have hbk_hf := hf.bk
  have hle_hlg := hlg.le
  have dj42 := dj_hf_hlg
  have nx43 := nxl_hf
  have nx44 := nxl_hlg
  refine CW.seq (fun K15 hK15 hE15 => ?_)
  refine CW.seq (fun K16 hK16 hE16 => ?_)
  refine CW.region ?_
  refine LR.v (Y.move rfl rfl) (Wd.u rfl) rfl rfl ?_
  refine LR.v (Y.move rfl rfl) (Wd.u rfl) rfl rfl ?_
  refine LR.v (Y.len hm rfl Tryz.runUnderlying22 rfl) (Wd.u rfl) rfl rfl ?_
  refine LR.v (Y.lss rfl rfl rfl) (Wd.u rfl) rfl rfl ?_
  refine LR.nil ?_
  refine hK16 _ _ ?_
  refine CW.condp rfl (fun c33 => ?_) (fun c33 => ?_)
  ·
    have hil : i < m.length := by omega
    have hxi := hxm m[i] (List.getElem_mem hil)
    have hri := hfm m[i] (List.getElem_mem hil)
    have hti : (recs (m.take i)).length = i := by unfold recs; rw [List.length_map, List.length_take]; omega
    have hte : recs (m.take (i + 1)) = recs (m.take i) ++ [m[i].2] := by unfold recs; rw [List.take_succ_eq_append_getElem hil, List.map_append]; rfl
    have hel : (encW (recs (m.take i))).length + (13 + m[i].2.length) ≤ 60268 := by rw [← encW_take hil]; unfold encW; rw [List.length_append]; have h1 := encN_take_le m (i + 1); have h8 : W8.length = 8 := rfl; omega
    refine CW.skip ?_
    refine hK15 _ _ ?_
    refine CW.cut (fun (s_ : (List Nat) × (Gh) × (Dk) × (Nat)) => match s_ with | (Qx, gx, Dx, lx) => [(0, t15.v), (1, s1.v), (5, ptr b17), (7, ptr lx), (10, .int .i64 (i : Int))])
      (fun (s_ : (List Nat) × (Gh) × (Dk) × (Nat)) (H : Heap) => match s_ with | (Qx, gx, Dx, lx) => (PDk Qx gx H b17 Dx) ∧ (Var 76 H lx [ptr b17, Str [106], .int .i64 ((i + 1 : Nat) : Int), .bool false]) ∧ (Fl [106] (encW (recs (m.take (i + 1)))) Dx ∧ Dx.dead = false ∧ Dx.left = 0) ∧ (Bs (112 + i * 600000 + 600000) Dx) ∧ (NxK Ki HL1.size Qx) ∧ (Nx ((lb + 1)) HL1.size ((lx + 1))) ∧ (DL ((lx + 1)) Qx) ∧ Mo (Ms (Ki ++ [((lb + 1))])) HL1 H) (fun K17 hK17 hE17 => ?_) ?_
    ·
      have hcm17 : Mo (Ms (Ki ++ [((lb + 1))])) HL1 HL1 := Mo.refl _ _
      have nx_hcm17_hf := NxK.refl Ki HL1.size
      have nx_hcm17_hlg := Nx.refl ((lb + 1)) HL1.size
      refine CW.block (fun K18 hK18 hX18 hE18 => ?_)
      refine CW.seq (fun K19 hK19 hE19 => ?_)
      refine CW.seq (fun K20 hK20 hE20 => ?_)
      refine CW.region ?_
      refine LR.v (Y.move rfl rfl) (Wd.u rfl) rfl rfl ?_
      refine LR.v (Y.move rfl rfl) (Wd.u rfl) rfl rfl ?_
      refine LR.v (Y.move rfl rfl) (Wd.u rfl) rfl rfl ?_
      refine LR.e (g := fun ad => .pointer (some ad)) (Y.indexAddrF hm (i) rfl Tryz.runUnderlying22 Tryz.sizeOf34 rfl rfl (by first | rfl | omega) (by first | omega | (simp; omega) | (simp; done))) (Wd.u rfl) rfl rfl (fun ad39 pt39 => ?_)
      have bf_pt39 := bf_hm
      refine LR.v (Y.load1 pt39.pt rfl Tryz.isAgg34 rfl) (Wd.u rfl) rfl rfl ?_
      -- call (*selvage/wal.Log).Append
      refine LR.call rfl Tryz.call10 rfl (Wd.u rfl) rfl rfl (wapp_ct mx_ Ki gi b17 Di lb [106] i false m[i].1 m[i].2 _ _ w0 _ hf mx (bf_mx.mono (by omega)) (df24) hlg (dj42) (df33) hxi (bf_hxm.mono (by omega)) (df29) (df38) (by omega) (by decide) hB (by omega) (by omega)) (fun v41 H41 r41 => ?_)
      have ql45 := hlg.le
      have ql46 := hf.bk
      obtain ⟨Q41, g41, rfl, hf, hkd41, hlg, dl241, hs41⟩ := r41
      have df47 := DFL.appK (df24) (bf_mx.mono hm0.size) hkd41
      have df48 := DFL.appK (df25) (bf_hl.mono hm0.size) hkd41
      have df49 := DFL.appK (df26) (bf_hx.mono hm0.size) hkd41
      have df50 := DFL.appK (df27) (bf_hbo.mono hm0.size) hkd41
      have df51 := DFL.appK (df28) (bf_hm.mono (by omega)) hkd41
      have df52 := DFL.appK (df29) (bf_hxm.mono (by omega)) hkd41
      have df53 := DFL.appK (df30) (bf_hw24.mono (by omega)) hkd41
      have df54 := DFL.appK (df31) (bf_hx24.mono (by omega)) hkd41
      have dj55 : DL ((lb + 1)) Q41 := DL.appK (dj42) ql45 hkd41
      have df56 := DFL.appK (df28) (bf_pt39.mono (by omega)) hkd41
      have nx57 : NxK [] H0.size Q41 := NxK.tr (nx32) hkd41 hm0.size
      have nx58 : NxK Q24 H24.size Q41 := NxK.tr (nx43) hkd41 hlm1.size
      have nx59 : NxK Ki HL1.size Q41 := NxK.tr (nx_hcm17_hf) hkd41 hcm17.size
      replace mx := mx.upL hs41 (DFL.app df24 (DFL.cons df33 DFL.nil))
      replace hl := hl.upL hs41 (DFL.app df25 (DFL.cons df34 DFL.nil))
      replace hx := fun x hx0 => (hx x hx0).upL hs41 (DFL.app df26 (DFL.cons df35 DFL.nil))
      replace hbo := hbo.upL hs41 (DFL.app df27 (DFL.cons df36 DFL.nil))
      replace hm := hm.upL hs41 (DFL.app df28 (DFL.cons df37 DFL.nil))
      replace hxm := fun x hx_ => (hxm x hx_).upL hs41 (DFL.app df29 (DFL.cons df38 DFL.nil))
      replace hw24 := hw24.upL hs41 (DFL.app df30 (DFL.cons df39 DFL.nil))
      replace hx24 := fun x hx_ => (hx24 x hx_).upL hs41 (DFL.app df31 (DFL.cons df40 DFL.nil))
      replace pt39 := pt39.upL hs41 (DFL.app df28 (DFL.cons df37 DFL.nil))
      replace hm0 := (Mo.trL (ks := []) (hm0.mdn []) hs41 (MIL.app (MIL.ofK0 (nx32)) (MIL.cons (MI.app MI.z (nx41) (Nat.le_refl _)) MIL.nil))).nil
      replace hlm1 := hlm1.trL hs41 (MIL.app (MIL.ofK (nx43) (by intro k hk; simp [hk])) (MIL.cons (MI.app (MI.root (by simp)) (nx44) (Nat.le_refl _)) MIL.nil))
      replace hcm17 := hcm17.trL hs41 (MIL.app (MIL.ofK (nx_hcm17_hf) (by intro k hk; simp [hk])) (MIL.cons (MI.app (MI.root (by simp)) (nx_hcm17_hlg) (Nat.le_refl _)) MIL.nil))
      have hz6 := hs41.size
      have hbk_hf := hf.bk
      have hap := app_fl (r := m[i].2) hfl.1 hfl.2.1 hfl.2.2 (by decide) (by omega) (by omega)
      rw [hti, ← hte] at hap
      obtain ⟨a1, a2, a3, a4, a5, a6⟩ := hap
      have hrdl := fl_rdl hfl.1
      have hB2 := bs_app2 hB [106] i false m[i].2 (M := 60276) (by omega)
      refine LR.v ((Y.neq rfl rfl rfl).isF ((fun h => h (by omega)))) (Wd.u rfl) rfl rfl ?_
      refine LR.v (Y.move rfl rfl) (Wd.u rfl) rfl rfl ?_
      refine LR.v (Y.move rfl rfl) (Wd.g rfl rfl rfl) rfl rfl ?_
      -- call (*selvage/wal.Log).Count
      refine LR.call rfl Tryz.call11 rfl (Wd.g rfl rfl rfl) rfl rfl (count_ct lb _ _ _ _ w0 _ hlg) (fun v45 H45 r45 => ?_)
      obtain ⟨rfl, hs45⟩ := r45
      replace mx := mx.nw hs45
      replace hl := hl.nw hs45
      replace hx := fun x hx0 => (hx x hx0).nw hs45
      replace hbo := hbo.nw hs45
      replace hm := hm.nw hs45
      replace hxm := fun x hx_ => (hxm x hx_).nw hs45
      replace hw24 := hw24.nw hs45
      replace hx24 := fun x hx_ => (hx24 x hx_).nw hs45
      replace hlg := hlg.nw hs45
      replace hf := hf.nw hs45
      replace pt39 := pt39.nw hs45
      replace hm0 := hm0.tr hs45
      replace hlm1 := hlm1.trN hs45
      replace hcm17 := hcm17.trN hs45
      have hz7 := hs45.size
      refine LR.v (Y.move rfl rfl) (Wd.g rfl rfl rfl) rfl rfl ?_
      refine LR.v (Y.addi rfl rfl rfl (by omega)) (Wd.g rfl rfl rfl) rfl rfl ?_
      refine LR.v ((Y.neq rfl rfl rfl).isF ((fun h => h (by omega)))) (Wd.g rfl rfl rfl) rfl rfl ?_
      refine LR.v (Y.pick_f rfl rfl rfl) (Wd.u rfl) rfl rfl ?_
      refine LR.nil ?_
      refine hK20 _ _ ?_
      refine CW.cond_f rfl ?_
      refine CW.skip ?_
      refine hK19 _ _ ?_
      refine CW.seq (fun K21 hK21 hE21 => ?_)
      refine CW.region ?_
      refine LR.v (Y.move rfl rfl) (Wd.u rfl) rfl rfl ?_
      refine LR.v (Y.move rfl rfl) (Wd.u rfl) rfl rfl ?_
      refine LR.v (Y.len hbo rfl Tryz.runUnderlying23 rfl) (Wd.u rfl) rfl rfl ?_
      refine LR.v (Y.lss rfl rfl rfl) (Wd.u rfl) rfl rfl ?_
      refine LR.v (Y.move rfl rfl) (Wd.u rfl) rfl rfl ?_
      refine LR.splitp (d := 54) rfl (fun g54 => ?_) (fun g54 => ?_)
      ·
        refine LR.v (Y.move rfl rfl) (Wd.g rfl rfl rfl) rfl rfl ?_
        refine LR.v (Y.move rfl rfl) (Wd.g rfl rfl rfl) rfl rfl ?_
        refine LR.e (g := fun ad => .pointer (some ad)) (Y.indexAddrF hbo (i) rfl Tryz.runUnderlying23 Tryz.sizeOf4 rfl rfl (by first | rfl | omega) (by first | omega | (simp; omega) | (simp; done))) (Wd.g rfl rfl rfl) rfl rfl (fun ad57 pt57 => ?_)
        have bf_pt57 := bf_hbo
        refine LR.v (Y.load1 pt57.pt rfl Tryz.isAgg4 rfl) (Wd.g rfl rfl rfl) rfl rfl ?_
        refine LR.v (Y.pick_t rfl rfl rfl) (Wd.u rfl) rfl rfl ?_
        refine LR.nil ?_
        refine hK21 _ _ ?_
        refine CW.cond rfl (fun c59 => ?_) (fun c59 => ?_)
        ·
          refine CW.seq (fun K22 hK22 hE22 => ?_)
          refine CW.seq (fun K23 hK23 hE23 => ?_)
          refine CW.region ?_
          refine LR.v (Y.move rfl rfl) (Wd.u rfl) rfl rfl ?_
          refine LR.v (Y.move rfl rfl) (Wd.u rfl) rfl rfl ?_
          refine LR.z (Z.litw _ (([(i : Int)] : List Int)) rfl inf39 rfl rfl rfl (by decide) (by decide) fI_len fI_one (rfl)) (Wd.u rfl) rfl rfl (fun v62 H62 r62 => ?_)
          obtain ⟨ow62, hs62, ob62, hH62⟩ := r62
          have hzs62 : H62.size = H45.size + 1 := by rw [hH62]; simp
          have df60 := (DF.new (bf_mx.mono hm0.size) : DF _ (H45.size + 1))
          have df61 := (DF.new (bf_hl.mono hm0.size) : DF _ (H45.size + 1))
          have df62 := (DF.new (bf_hx.mono hm0.size) : DF _ (H45.size + 1))
          have df63 := (DF.new (bf_hbo.mono hm0.size) : DF _ (H45.size + 1))
          have df64 := (DF.new (bf_hm.mono (by omega)) : DF _ (H45.size + 1))
          have df65 := (DF.new (bf_hxm.mono (by omega)) : DF _ (H45.size + 1))
          have df66 := (DF.new (bf_hw24.mono (by omega)) : DF _ (H45.size + 1))
          have df67 := (DF.new (bf_hx24.mono (by omega)) : DF _ (H45.size + 1))
          have dj68 : Dj ((lb + 1)) (H45.size + 1) := Dj.new hlg.le
          have dj69 : DL (H45.size + 1) Q41 := DL.newK hf.bk
          have nx70 : Nx 0 H0.size (H45.size + 1) := Nx.new hm0.size
          have nx71 : Nx 0 H24.size (H45.size + 1) := Nx.new hlm1.size
          have nx72 : Nx 0 HL1.size (H45.size + 1) := Nx.new hcm17.size
          replace mx := mx.nw hs62
          replace hl := hl.nw hs62
          replace hx := fun x hx0 => (hx x hx0).nw hs62
          replace hbo := hbo.nw hs62
          replace hm := hm.nw hs62
          replace hxm := fun x hx_ => (hxm x hx_).nw hs62
          replace hw24 := hw24.nw hs62
          replace hx24 := fun x hx_ => (hx24 x hx_).nw hs62
          replace hlg := hlg.nw hs62
          replace hf := hf.nw hs62
          replace hm0 := hm0.tr hs62
          replace hlm1 := hlm1.trN hs62
          replace hcm17 := hcm17.trN hs62
          have hz8 := hs62.size
          obtain ⟨s62, rfl⟩ : ∃ s : SV, v62 = s.v := ⟨toSV v62, ow62.sv.symm⟩
          -- call (*selvage/simfs.FS).Crash
          refine LR.call rfl Tryz.call12 rfl (Wd.u rfl) rfl rfl (crash_ct Q41 g41 b17 (appD Di [106] i false m[i].2).2.2.2 _ s62 [(i : Int)] w0 _ hf ow62.rd (BF.of ow62.le) (DFL.of (dj69)) (hB2.bd (by omega)) (hB2.wy (by omega)) (fun x hx => by rw [List.mem_singleton.1 hx]; omega)) (fun v63 H63 r63 => ?_)
          have ql73 := hlg.le
          have ql74 := hf.bk
          have ql75 := ow62.le
          obtain ⟨Q63, g63, rfl, hf, hkd63, hs63⟩ := r63
          have df76 := DFL.appK (df47) (bf_mx.mono hm0.size) hkd63
          have df77 := DFL.appK (df48) (bf_hl.mono hm0.size) hkd63
          have df78 := DFL.appK (df49) (bf_hx.mono hm0.size) hkd63
          have df79 := DFL.appK (df50) (bf_hbo.mono hm0.size) hkd63
          have df80 := DFL.appK (df51) (bf_hm.mono (by omega)) hkd63
          have df81 := DFL.appK (df52) (bf_hxm.mono (by omega)) hkd63
          have df82 := DFL.appK (df53) (bf_hw24.mono (by omega)) hkd63
          have df83 := DFL.appK (df54) (bf_hx24.mono (by omega)) hkd63
          have dj84 : DL ((lb + 1)) Q63 := DL.appK (dl241) ql73 hkd63
          have dj85 : DL (H45.size + 1) Q63 := DL.appK (dj69) ql75 hkd63
          have nx86 : NxK [] H0.size Q63 := NxK.tr (nx57) hkd63 hm0.size
          have nx87 : NxK Q24 H24.size Q63 := NxK.tr (nx58) hkd63 hlm1.size
          have nx88 : NxK Ki HL1.size Q63 := NxK.tr (nx59) hkd63 hcm17.size
          replace mx := mx.upL hs63 (df47)
          replace hl := hl.upL hs63 (df48)
          replace hx := fun x hx0 => (hx x hx0).upL hs63 (df49)
          replace hbo := hbo.upL hs63 (df50)
          replace hm := hm.upL hs63 (df51)
          replace hxm := fun x hx_ => (hxm x hx_).upL hs63 (df52)
          replace hw24 := hw24.upL hs63 (df53)
          replace hx24 := fun x hx_ => (hx24 x hx_).upL hs63 (df54)
          replace hlg := hlg.upL hs63 (dl241)
          replace ow62 := ow62.upL hs63 (dj69)
          replace hm0 := (Mo.trL (ks := []) (hm0.mdn []) hs63 (MIL.ofK0 (nx57))).nil
          replace hlm1 := hlm1.trL hs63 (MIL.ofK (nx58) (by intro k hk; simp [hk]))
          replace hcm17 := hcm17.trL hs63 (MIL.ofK (nx59) (by intro k hk; simp [hk]))
          have hz9 := hs63.size
          have hbk_hf := hf.bk
          have hS63 := hB2.crash [(i : Int)]
          have hcr := a4.crash [(i : Int)]
          have hop := open_fl1 hcr.1 (fun r h => by have := hmm r (by unfold recs at h; rw [List.map_take] at h; exact List.mem_of_mem_take h); omega) hcr.2.2.1 (by decide) (by decide)
          refine LR.v ((Y.neq rfl rfl rfl).isF ((fun h => h (by rw [hcr.2.1]; rfl)))) (Wd.u rfl) rfl rfl ?_
          refine LR.nil ?_
          refine hK23 _ _ ?_
          refine CW.cond_f rfl ?_
          refine CW.skip ?_
          refine hK22 _ _ ?_
          refine CW.seq (fun K24 hK24 hE24 => ?_)
          refine CW.region ?_
          refine LR.z (Z.litw _ (([] : List (SV × Rec))) rfl inf22 rfl rfl rfl (by decide) (by decide) fP_len fP_one (rfl)) (Wd.u rfl) rfl rfl (fun v65 H65 r65 => ?_)
          obtain ⟨nd65, hs65, ob65, hH65⟩ := r65
          have hzs65 : H65.size = H63.size + 1 := by rw [hH65]; simp
          have df89 := (DF.new (bf_mx.mono hm0.size) : DF _ (H63.size + 1))
          have df90 := (DF.new (bf_hl.mono hm0.size) : DF _ (H63.size + 1))
          have df91 := (DF.new (bf_hx.mono hm0.size) : DF _ (H63.size + 1))
          have df92 := (DF.new (bf_hbo.mono hm0.size) : DF _ (H63.size + 1))
          have df93 := (DF.new (bf_hm.mono (by omega)) : DF _ (H63.size + 1))
          have df94 := (DF.new (bf_hxm.mono (by omega)) : DF _ (H63.size + 1))
          have df95 := (DF.new (bf_hw24.mono (by omega)) : DF _ (H63.size + 1))
          have df96 := (DF.new (bf_hx24.mono (by omega)) : DF _ (H63.size + 1))
          have dj97 : Dj ((lb + 1)) (H63.size + 1) := Dj.new hlg.le
          have dj98 : DL (H63.size + 1) Q63 := DL.newK hf.bk
          have nx99 : Nx 0 H0.size (H63.size + 1) := Nx.new hm0.size
          have nx100 : Nx 0 H24.size (H63.size + 1) := Nx.new hlm1.size
          have nx101 : Nx 0 HL1.size (H63.size + 1) := Nx.new hcm17.size
          replace mx := mx.nw hs65
          replace hl := hl.nw hs65
          replace hx := fun x hx0 => (hx x hx0).nw hs65
          replace hbo := hbo.nw hs65
          replace hm := hm.nw hs65
          replace hxm := fun x hx_ => (hxm x hx_).nw hs65
          replace hw24 := hw24.nw hs65
          replace hx24 := fun x hx_ => (hx24 x hx_).nw hs65
          replace hlg := hlg.nw hs65
          replace hf := hf.nw hs65
          replace hm0 := hm0.tr hs65
          replace hlm1 := hlm1.trN hs65
          replace hcm17 := hcm17.trN hs65
          have hz10 := hs65.size
          refine LR.v (Y.assign rfl rfl) (Wd.u rfl) rfl rfl ?_
          refine LR.nil ?_
          refine hK24 _ _ ?_
          refine CW.seq (fun K25 hK25 hE25 => ?_)
          refine CW.region ?_
          refine LR.v (Y.move rfl rfl) (Wd.u rfl) rfl rfl ?_
          -- call selvage/wal.Open
          refine LR.call rfl Tryz.call9 rfl (Wd.u rfl) rfl rfl (wopen_ok mx_ Q63 g63 b17 ((appD Di [106] i false m[i].2).2.2.2.crash [(i : Int)]) [106] _ w0 _ hf mx (bf_mx.mono (by omega)) (df76) (by decide) hS63 (by omega) (by rw [hop])) (fun v68 H68 r68 => ?_)
          have ql102 := hlg.le
          have ql103 := hf.bk
          obtain ⟨lb68, t68, l68, Q68, g68, G68, rfl, hf, hkd68, hlh, hkl68, dl268, hrl68, hw68, hx68, hGb68, hGf68, hGk68, hGl68, hs68⟩ := r68
          have df104 := DFL.appK (df76) (bf_mx.mono hm0.size) hkd68
          have df105 := DFL.appK (df77) (bf_hl.mono hm0.size) hkd68
          have df106 := DFL.appK (df78) (bf_hx.mono hm0.size) hkd68
          have df107 := DFL.appK (df79) (bf_hbo.mono hm0.size) hkd68
          have df108 := DFL.appK (df80) (bf_hm.mono (by omega)) hkd68
          have df109 := DFL.appK (df81) (bf_hxm.mono (by omega)) hkd68
          have df110 := DFL.appK (df82) (bf_hw24.mono (by omega)) hkd68
          have df111 := DFL.appK (df83) (bf_hx24.mono (by omega)) hkd68
          have dj112 : DL ((lb + 1)) Q68 := DL.appK (dj84) ql102 hkd68
          have nx113 : NxK [] H0.size Q68 := NxK.tr (nx86) hkd68 hm0.size
          have nx114 : NxK Q24 H24.size Q68 := NxK.tr (nx87) hkd68 hlm1.size
          have nx115 : NxK Ki HL1.size Q68 := NxK.tr (nx88) hkd68 hcm17.size
          have df116 := DF.app (DF.z) (bf_mx.mono hm0.size) hkl68
          have df117 := DF.app (DF.z) (bf_hl.mono hm0.size) hkl68
          have df118 := DF.app (DF.z) (bf_hx.mono hm0.size) hkl68
          have df119 := DF.app (DF.z) (bf_hbo.mono hm0.size) hkl68
          have df120 := DF.app (DF.z) (bf_hm.mono (by omega)) hkl68
          have df121 := DF.app (DF.z) (bf_hxm.mono (by omega)) hkl68
          have df122 := DF.app (DF.z) (bf_hw24.mono (by omega)) hkl68
          have df123 := DF.app (DF.z) (bf_hx24.mono (by omega)) hkl68
          have dj124 : Dj ((lb + 1)) (lb68 + 1) := Dj.app (Dj.z) ql102 hkl68
          have dj125 : DL (lb68 + 1) Q63 := DL.app2 (DL.zK) ql103 hkl68
          have nx126 : Nx 0 H0.size (lb68 + 1) := Nx.tr (Nx.refl 0 _) hkl68 hm0.size
          have nx127 : Nx 0 H24.size (lb68 + 1) := Nx.tr (Nx.refl 0 _) hkl68 hlm1.size
          have nx128 : Nx 0 HL1.size (lb68 + 1) := Nx.tr (Nx.refl 0 _) hkl68 hcm17.size
          replace mx := mx.upL hs68 (df76)
          replace hl := hl.upL hs68 (df77)
          replace hx := fun x hx0 => (hx x hx0).upL hs68 (df78)
          replace hbo := hbo.upL hs68 (df79)
          replace hm := hm.upL hs68 (df80)
          replace hxm := fun x hx_ => (hxm x hx_).upL hs68 (df81)
          replace hw24 := hw24.upL hs68 (df82)
          replace hx24 := fun x hx_ => (hx24 x hx_).upL hs68 (df83)
          replace hlg := hlg.upL hs68 (dj84)
          replace hm0 := (Mo.trL (ks := []) (hm0.mdn []) hs68 (MIL.ofK0 (nx86))).nil
          replace hlm1 := hlm1.trL hs68 (MIL.ofK (nx87) (by intro k hk; simp [hk]))
          replace hcm17 := hcm17.trL hs68 (MIL.ofK (nx88) (by intro k hk; simp [hk]))
          have hz11 := hs68.size
          have hbk_hf := hf.bk
          have hle_hlh := hlh.le
          have bf_hw68 := hGb68
          have df129 : DF _ ((lb + 1)) := DF.above hGf68 (by first | exact hle_hlg | exact hlt_hlg | omega)
          have bf_hx68 := hGb68
          have df130 : DF _ ((lb + 1)) := DF.above hGf68 (by first | exact hle_hlg | exact hlt_hlg | omega)
          rw [hop] at hrl68
          have hl68 : l68.length = i + 1 := by have h9 := congrArg List.length hrl68; rw [hte, List.length_append, hti] at h9; simpa [recs] using h9
          have hB4 := bs_open2 hS63 [106] (M := 60276) (by have := fl_rdl hcr.1; rw [hte, encW_snoc, List.length_append, recW_len] at this; omega)
          refine LR.v (Y.move rfl rfl) (Wd.u rfl) rfl rfl ?_
          refine LR.v (Y.extract rfl rfl rfl) (Wd.u rfl) rfl rfl ?_
          refine LR.v (Y.extract rfl rfl rfl) (Wd.u rfl) rfl rfl ?_
          refine LR.v (Y.extract rfl rfl rfl) (Wd.u rfl) rfl rfl ?_
          refine LR.v (Y.assign rfl rfl) (Wd.u rfl) rfl rfl ?_
          refine LR.v (Y.assign rfl rfl) (Wd.u rfl) rfl rfl ?_
          refine LR.v (Y.assign rfl rfl) (Wd.u rfl) rfl rfl ?_
          refine LR.nil ?_
          refine hK25 _ _ ?_
          refine CW.seq (fun K26 hK26 hE26 => ?_)
          refine CW.region ?_
          refine LR.v (Y.move rfl rfl) (Wd.u rfl) rfl rfl ?_
          refine LR.v ((Y.neq rfl rfl rfl).isF ((fun h => h rfl))) (Wd.u rfl) rfl rfl ?_
          refine LR.v (Y.move rfl rfl) (Wd.u rfl) rfl rfl ?_
          refine LR.v (Y.move rfl rfl) (Wd.g rfl rfl rfl) rfl rfl ?_
          refine LR.v (Y.move rfl rfl) (Wd.g rfl rfl rfl) rfl rfl ?_
          refine LR.v (Y.move rfl rfl) (Wd.g rfl rfl rfl) rfl rfl ?_
          refine LR.v (Y.addi rfl rfl rfl (by omega)) (Wd.g rfl rfl rfl) rfl rfl ?_
          refine LR.e (g := fun v => v) (Y.slice hm (0) (i + 1) rfl Tryz.runUnderlying22 Tryz.sizeOf34 rfl (.inl ⟨rfl, rfl⟩) (.inr ⟨_, _, _, rfl, rfl, (by omega)⟩) (by omega) (by omega)) (Wd.g rfl rfl rfl) rfl rfl (fun v79 rd79 => ?_)
          have bf_rd79 := bf_hm
          rw [List.drop_zero] at rd79
          obtain ⟨s79, rfl⟩ : ∃ s : SV, v79 = s.v := ⟨toSV v79, rd79.sv.symm⟩
          -- call selvage/selvagelaw3.sameRows
          refine LR.call rfl Tryz.call13 rfl (Wd.g rfl rfl rfl) rfl rfl (sameR_ct t68 s79 l68 (m.take (i + 1)) w0 _ hw68.any rd79.any (fun x h => (hx68 x h).any) (fun x h => (hxm x (List.mem_of_mem_take h)).any)) (fun v80 H80 r80 => ?_)
          obtain ⟨rfl, hs80⟩ := r80
          replace mx := mx.nw hs80
          replace hl := hl.nw hs80
          replace hx := fun x hx0 => (hx x hx0).nw hs80
          replace hbo := hbo.nw hs80
          replace hm := hm.nw hs80
          replace hxm := fun x hx_ => (hxm x hx_).nw hs80
          replace hw24 := hw24.nw hs80
          replace hx24 := fun x hx_ => (hx24 x hx_).nw hs80
          replace hlg := hlg.nw hs80
          replace hf := hf.nw hs80
          replace hlh := hlh.nw hs80
          replace hw68 := hw68.nw hs80
          replace hx68 := fun x hx_ => (hx68 x hx_).nw hs80
          replace rd79 := rd79.nw hs80
          replace hm0 := hm0.tr hs80
          replace hlm1 := hlm1.trN hs80
          replace hcm17 := hcm17.trN hs80
          have hz12 := hs80.size
          rw [hrl68, decide_eq_true rfl]
          refine LR.v (Y.not rfl rfl) (Wd.g rfl rfl rfl) rfl rfl ?_
          refine LR.v (Y.pick_f rfl rfl rfl) (Wd.u rfl) rfl rfl ?_
          refine LR.nil ?_
          refine hK26 _ _ ?_
          refine CW.cond_f rfl ?_
          refine CW.skip ?_
          refine hK18 _ _ ?_
          refine QN.sub (hK17 (Q68, g68, (openD ((appD Di [106] i false m[i].2).2.2.2.crash [(i : Int)]) [106]).2.2, lb68) _ ?_) ⟨rfl, rfl, rfl, rfl, (iv (by omega)), trivial⟩
          exact ⟨hf, by rw [hl68] at hlh; exact hlh, ⟨by rw [hop]; exact hcr.1, by rw [hop]; exact hcr.2.2.1, by rw [hop]; exact hcr.2.2.2⟩, hB4.mono (by omega), nx115, (Nx.z (nx128)), dl268, hcm17⟩
        ·
          refine CW.skip ?_
          refine hK18 _ _ ?_
          refine QN.sub (hK17 (Q41, g41, (appD Di [106] i false m[i].2).2.2.2, lb) _ ?_) ⟨rfl, rfl, rfl, rfl, (iv (by omega)), trivial⟩
          exact ⟨hf, by rw [a2, a3] at hlg; exact hlg, ⟨a4, a5, a6⟩, hB2.mono (by omega), nx59, nx_hcm17_hlg, dl241, hcm17⟩
      ·
        refine LR.gs rfl rfl rfl rfl rfl rfl ?_
        refine LR.gs rfl rfl rfl rfl rfl rfl ?_
        refine LR.gs rfl rfl rfl rfl rfl rfl ?_
        refine LR.gs rfl rfl rfl rfl rfl rfl ?_
        refine LR.v (Y.pick_f rfl rfl rfl) (Wd.u rfl) rfl rfl ?_
        refine LR.nil ?_
        refine hK21 _ _ ?_
        refine CW.cond rfl (fun c59 => ?_) (fun c59 => ?_)
        ·
          refine CW.seq (fun K27 hK27 hE27 => ?_)
          refine CW.seq (fun K28 hK28 hE28 => ?_)
          refine CW.region ?_
          refine LR.v (Y.move rfl rfl) (Wd.u rfl) rfl rfl ?_
          refine LR.v (Y.move rfl rfl) (Wd.u rfl) rfl rfl ?_
          refine LR.z (Z.litw _ (([(i : Int)] : List Int)) rfl inf39 rfl rfl rfl (by decide) (by decide) fI_len fI_one (rfl)) (Wd.u rfl) rfl rfl (fun v62 H62 r62 => ?_)
          obtain ⟨ow62, hs62, ob62, hH62⟩ := r62
          have hzs62 : H62.size = H45.size + 1 := by rw [hH62]; simp
          have df131 := (DF.new (bf_mx.mono hm0.size) : DF _ (H45.size + 1))
          have df132 := (DF.new (bf_hl.mono hm0.size) : DF _ (H45.size + 1))
          have df133 := (DF.new (bf_hx.mono hm0.size) : DF _ (H45.size + 1))
          have df134 := (DF.new (bf_hbo.mono hm0.size) : DF _ (H45.size + 1))
          have df135 := (DF.new (bf_hm.mono (by omega)) : DF _ (H45.size + 1))
          have df136 := (DF.new (bf_hxm.mono (by omega)) : DF _ (H45.size + 1))
          have df137 := (DF.new (bf_hw24.mono (by omega)) : DF _ (H45.size + 1))
          have df138 := (DF.new (bf_hx24.mono (by omega)) : DF _ (H45.size + 1))
          have dj139 : Dj ((lb + 1)) (H45.size + 1) := Dj.new hlg.le
          have dj140 : DL (H45.size + 1) Q41 := DL.newK hf.bk
          have nx141 : Nx 0 H0.size (H45.size + 1) := Nx.new hm0.size
          have nx142 : Nx 0 H24.size (H45.size + 1) := Nx.new hlm1.size
          have nx143 : Nx 0 HL1.size (H45.size + 1) := Nx.new hcm17.size
          replace mx := mx.nw hs62
          replace hl := hl.nw hs62
          replace hx := fun x hx0 => (hx x hx0).nw hs62
          replace hbo := hbo.nw hs62
          replace hm := hm.nw hs62
          replace hxm := fun x hx_ => (hxm x hx_).nw hs62
          replace hw24 := hw24.nw hs62
          replace hx24 := fun x hx_ => (hx24 x hx_).nw hs62
          replace hlg := hlg.nw hs62
          replace hf := hf.nw hs62
          replace hm0 := hm0.tr hs62
          replace hlm1 := hlm1.trN hs62
          replace hcm17 := hcm17.trN hs62
          have hz13 := hs62.size
          obtain ⟨s62, rfl⟩ : ∃ s : SV, v62 = s.v := ⟨toSV v62, ow62.sv.symm⟩
          -- call (*selvage/simfs.FS).Crash
          refine LR.call rfl Tryz.call12 rfl (Wd.u rfl) rfl rfl (crash_ct Q41 g41 b17 (appD Di [106] i false m[i].2).2.2.2 _ s62 [(i : Int)] w0 _ hf ow62.rd (BF.of ow62.le) (DFL.of (dj140)) (hB2.bd (by omega)) (hB2.wy (by omega)) (fun x hx => by rw [List.mem_singleton.1 hx]; omega)) (fun v63 H63 r63 => ?_)
          have ql144 := hlg.le
          have ql145 := hf.bk
          have ql146 := ow62.le
          obtain ⟨Q63, g63, rfl, hf, hkd63, hs63⟩ := r63
          have df147 := DFL.appK (df47) (bf_mx.mono hm0.size) hkd63
          have df148 := DFL.appK (df48) (bf_hl.mono hm0.size) hkd63
          have df149 := DFL.appK (df49) (bf_hx.mono hm0.size) hkd63
          have df150 := DFL.appK (df50) (bf_hbo.mono hm0.size) hkd63
          have df151 := DFL.appK (df51) (bf_hm.mono (by omega)) hkd63
          have df152 := DFL.appK (df52) (bf_hxm.mono (by omega)) hkd63
          have df153 := DFL.appK (df53) (bf_hw24.mono (by omega)) hkd63
          have df154 := DFL.appK (df54) (bf_hx24.mono (by omega)) hkd63
          have dj155 : DL ((lb + 1)) Q63 := DL.appK (dl241) ql144 hkd63
          have dj156 : DL (H45.size + 1) Q63 := DL.appK (dj140) ql146 hkd63
          have nx157 : NxK [] H0.size Q63 := NxK.tr (nx57) hkd63 hm0.size
          have nx158 : NxK Q24 H24.size Q63 := NxK.tr (nx58) hkd63 hlm1.size
          have nx159 : NxK Ki HL1.size Q63 := NxK.tr (nx59) hkd63 hcm17.size
          replace mx := mx.upL hs63 (df47)
          replace hl := hl.upL hs63 (df48)
          replace hx := fun x hx0 => (hx x hx0).upL hs63 (df49)
          replace hbo := hbo.upL hs63 (df50)
          replace hm := hm.upL hs63 (df51)
          replace hxm := fun x hx_ => (hxm x hx_).upL hs63 (df52)
          replace hw24 := hw24.upL hs63 (df53)
          replace hx24 := fun x hx_ => (hx24 x hx_).upL hs63 (df54)
          replace hlg := hlg.upL hs63 (dl241)
          replace ow62 := ow62.upL hs63 (dj140)
          replace hm0 := (Mo.trL (ks := []) (hm0.mdn []) hs63 (MIL.ofK0 (nx57))).nil
          replace hlm1 := hlm1.trL hs63 (MIL.ofK (nx58) (by intro k hk; simp [hk]))
          replace hcm17 := hcm17.trL hs63 (MIL.ofK (nx59) (by intro k hk; simp [hk]))
          have hz14 := hs63.size
          have hbk_hf := hf.bk
          have hS63 := hB2.crash [(i : Int)]
          have hcr := a4.crash [(i : Int)]
          have hop := open_fl1 hcr.1 (fun r h => by have := hmm r (by unfold recs at h; rw [List.map_take] at h; exact List.mem_of_mem_take h); omega) hcr.2.2.1 (by decide) (by decide)
          refine LR.v ((Y.neq rfl rfl rfl).isF ((fun h => h (by rw [hcr.2.1]; rfl)))) (Wd.u rfl) rfl rfl ?_
          refine LR.nil ?_
          refine hK28 _ _ ?_
          refine CW.cond_f rfl ?_
          refine CW.skip ?_
          refine hK27 _ _ ?_
          refine CW.seq (fun K29 hK29 hE29 => ?_)
          refine CW.region ?_
          refine LR.z (Z.litw _ (([] : List (SV × Rec))) rfl inf22 rfl rfl rfl (by decide) (by decide) fP_len fP_one (rfl)) (Wd.u rfl) rfl rfl (fun v65 H65 r65 => ?_)
          obtain ⟨nd65, hs65, ob65, hH65⟩ := r65
          have hzs65 : H65.size = H63.size + 1 := by rw [hH65]; simp
          have df160 := (DF.new (bf_mx.mono hm0.size) : DF _ (H63.size + 1))
          have df161 := (DF.new (bf_hl.mono hm0.size) : DF _ (H63.size + 1))
          have df162 := (DF.new (bf_hx.mono hm0.size) : DF _ (H63.size + 1))
          have df163 := (DF.new (bf_hbo.mono hm0.size) : DF _ (H63.size + 1))
          have df164 := (DF.new (bf_hm.mono (by omega)) : DF _ (H63.size + 1))
          have df165 := (DF.new (bf_hxm.mono (by omega)) : DF _ (H63.size + 1))
          have df166 := (DF.new (bf_hw24.mono (by omega)) : DF _ (H63.size + 1))
          have df167 := (DF.new (bf_hx24.mono (by omega)) : DF _ (H63.size + 1))
          have dj168 : Dj ((lb + 1)) (H63.size + 1) := Dj.new hlg.le
          have dj169 : DL (H63.size + 1) Q63 := DL.newK hf.bk
          have nx170 : Nx 0 H0.size (H63.size + 1) := Nx.new hm0.size
          have nx171 : Nx 0 H24.size (H63.size + 1) := Nx.new hlm1.size
          have nx172 : Nx 0 HL1.size (H63.size + 1) := Nx.new hcm17.size
          replace mx := mx.nw hs65
          replace hl := hl.nw hs65
          replace hx := fun x hx0 => (hx x hx0).nw hs65
          replace hbo := hbo.nw hs65
          replace hm := hm.nw hs65
          replace hxm := fun x hx_ => (hxm x hx_).nw hs65
          replace hw24 := hw24.nw hs65
          replace hx24 := fun x hx_ => (hx24 x hx_).nw hs65
          replace hlg := hlg.nw hs65
          replace hf := hf.nw hs65
          replace hm0 := hm0.tr hs65
          replace hlm1 := hlm1.trN hs65
          replace hcm17 := hcm17.trN hs65
          have hz15 := hs65.size
          refine LR.v (Y.assign rfl rfl) (Wd.u rfl) rfl rfl ?_
          refine LR.nil ?_
          refine hK29 _ _ ?_
          refine CW.seq (fun K30 hK30 hE30 => ?_)
          refine CW.region ?_
          refine LR.v (Y.move rfl rfl) (Wd.u rfl) rfl rfl ?_
          -- call selvage/wal.Open
          refine LR.call rfl Tryz.call9 rfl (Wd.u rfl) rfl rfl (wopen_ok mx_ Q63 g63 b17 ((appD Di [106] i false m[i].2).2.2.2.crash [(i : Int)]) [106] _ w0 _ hf mx (bf_mx.mono (by omega)) (df147) (by decide) hS63 (by omega) (by rw [hop])) (fun v68 H68 r68 => ?_)
          have ql173 := hlg.le
          have ql174 := hf.bk
          obtain ⟨lb68, t68, l68, Q68, g68, G68, rfl, hf, hkd68, hlh, hkl68, dl268, hrl68, hw68, hx68, hGb68, hGf68, hGk68, hGl68, hs68⟩ := r68
          have df175 := DFL.appK (df147) (bf_mx.mono hm0.size) hkd68
          have df176 := DFL.appK (df148) (bf_hl.mono hm0.size) hkd68
          have df177 := DFL.appK (df149) (bf_hx.mono hm0.size) hkd68
          have df178 := DFL.appK (df150) (bf_hbo.mono hm0.size) hkd68
          have df179 := DFL.appK (df151) (bf_hm.mono (by omega)) hkd68
          have df180 := DFL.appK (df152) (bf_hxm.mono (by omega)) hkd68
          have df181 := DFL.appK (df153) (bf_hw24.mono (by omega)) hkd68
          have df182 := DFL.appK (df154) (bf_hx24.mono (by omega)) hkd68
          have dj183 : DL ((lb + 1)) Q68 := DL.appK (dj155) ql173 hkd68
          have nx184 : NxK [] H0.size Q68 := NxK.tr (nx157) hkd68 hm0.size
          have nx185 : NxK Q24 H24.size Q68 := NxK.tr (nx158) hkd68 hlm1.size
          have nx186 : NxK Ki HL1.size Q68 := NxK.tr (nx159) hkd68 hcm17.size
          have df187 := DF.app (DF.z) (bf_mx.mono hm0.size) hkl68
          have df188 := DF.app (DF.z) (bf_hl.mono hm0.size) hkl68
          have df189 := DF.app (DF.z) (bf_hx.mono hm0.size) hkl68
          have df190 := DF.app (DF.z) (bf_hbo.mono hm0.size) hkl68
          have df191 := DF.app (DF.z) (bf_hm.mono (by omega)) hkl68
          have df192 := DF.app (DF.z) (bf_hxm.mono (by omega)) hkl68
          have df193 := DF.app (DF.z) (bf_hw24.mono (by omega)) hkl68
          have df194 := DF.app (DF.z) (bf_hx24.mono (by omega)) hkl68
          have dj195 : Dj ((lb + 1)) (lb68 + 1) := Dj.app (Dj.z) ql173 hkl68
          have dj196 : DL (lb68 + 1) Q63 := DL.app2 (DL.zK) ql174 hkl68
          have nx197 : Nx 0 H0.size (lb68 + 1) := Nx.tr (Nx.refl 0 _) hkl68 hm0.size
          have nx198 : Nx 0 H24.size (lb68 + 1) := Nx.tr (Nx.refl 0 _) hkl68 hlm1.size
          have nx199 : Nx 0 HL1.size (lb68 + 1) := Nx.tr (Nx.refl 0 _) hkl68 hcm17.size
          replace mx := mx.upL hs68 (df147)
          replace hl := hl.upL hs68 (df148)
          replace hx := fun x hx0 => (hx x hx0).upL hs68 (df149)
          replace hbo := hbo.upL hs68 (df150)
          replace hm := hm.upL hs68 (df151)
          replace hxm := fun x hx_ => (hxm x hx_).upL hs68 (df152)
          replace hw24 := hw24.upL hs68 (df153)
          replace hx24 := fun x hx_ => (hx24 x hx_).upL hs68 (df154)
          replace hlg := hlg.upL hs68 (dj155)
          replace hm0 := (Mo.trL (ks := []) (hm0.mdn []) hs68 (MIL.ofK0 (nx157))).nil
          replace hlm1 := hlm1.trL hs68 (MIL.ofK (nx158) (by intro k hk; simp [hk]))
          replace hcm17 := hcm17.trL hs68 (MIL.ofK (nx159) (by intro k hk; simp [hk]))
          have hz16 := hs68.size
          have hbk_hf := hf.bk
          have hle_hlh := hlh.le
          have bf_hw68 := hGb68
          have df200 : DF _ ((lb + 1)) := DF.above hGf68 (by first | exact hle_hlg | exact hlt_hlg | omega)
          have bf_hx68 := hGb68
          have df201 : DF _ ((lb + 1)) := DF.above hGf68 (by first | exact hle_hlg | exact hlt_hlg | omega)
          rw [hop] at hrl68
          have hl68 : l68.length = i + 1 := by have h9 := congrArg List.length hrl68; rw [hte, List.length_append, hti] at h9; simpa [recs] using h9
          have hB4 := bs_open2 hS63 [106] (M := 60276) (by have := fl_rdl hcr.1; rw [hte, encW_snoc, List.length_append, recW_len] at this; omega)
          refine LR.v (Y.move rfl rfl) (Wd.u rfl) rfl rfl ?_
          refine LR.v (Y.extract rfl rfl rfl) (Wd.u rfl) rfl rfl ?_
          refine LR.v (Y.extract rfl rfl rfl) (Wd.u rfl) rfl rfl ?_
          refine LR.v (Y.extract rfl rfl rfl) (Wd.u rfl) rfl rfl ?_
          refine LR.v (Y.assign rfl rfl) (Wd.u rfl) rfl rfl ?_
          refine LR.v (Y.assign rfl rfl) (Wd.u rfl) rfl rfl ?_
          refine LR.v (Y.assign rfl rfl) (Wd.u rfl) rfl rfl ?_
          refine LR.nil ?_
          refine hK30 _ _ ?_
          refine CW.seq (fun K31 hK31 hE31 => ?_)
          refine CW.region ?_
          refine LR.v (Y.move rfl rfl) (Wd.u rfl) rfl rfl ?_
          refine LR.v ((Y.neq rfl rfl rfl).isF ((fun h => h rfl))) (Wd.u rfl) rfl rfl ?_
          refine LR.v (Y.move rfl rfl) (Wd.u rfl) rfl rfl ?_
          refine LR.v (Y.move rfl rfl) (Wd.g rfl rfl rfl) rfl rfl ?_
          refine LR.v (Y.move rfl rfl) (Wd.g rfl rfl rfl) rfl rfl ?_
          refine LR.v (Y.move rfl rfl) (Wd.g rfl rfl rfl) rfl rfl ?_
          refine LR.v (Y.addi rfl rfl rfl (by omega)) (Wd.g rfl rfl rfl) rfl rfl ?_
          refine LR.e (g := fun v => v) (Y.slice hm (0) (i + 1) rfl Tryz.runUnderlying22 Tryz.sizeOf34 rfl (.inl ⟨rfl, rfl⟩) (.inr ⟨_, _, _, rfl, rfl, (by omega)⟩) (by omega) (by omega)) (Wd.g rfl rfl rfl) rfl rfl (fun v79 rd79 => ?_)
          have bf_rd79 := bf_hm
          rw [List.drop_zero] at rd79
          obtain ⟨s79, rfl⟩ : ∃ s : SV, v79 = s.v := ⟨toSV v79, rd79.sv.symm⟩
          -- call selvage/selvagelaw3.sameRows
          refine LR.call rfl Tryz.call13 rfl (Wd.g rfl rfl rfl) rfl rfl (sameR_ct t68 s79 l68 (m.take (i + 1)) w0 _ hw68.any rd79.any (fun x h => (hx68 x h).any) (fun x h => (hxm x (List.mem_of_mem_take h)).any)) (fun v80 H80 r80 => ?_)
          obtain ⟨rfl, hs80⟩ := r80
          replace mx := mx.nw hs80
          replace hl := hl.nw hs80
          replace hx := fun x hx0 => (hx x hx0).nw hs80
          replace hbo := hbo.nw hs80
          replace hm := hm.nw hs80
          replace hxm := fun x hx_ => (hxm x hx_).nw hs80
          replace hw24 := hw24.nw hs80
          replace hx24 := fun x hx_ => (hx24 x hx_).nw hs80
          replace hlg := hlg.nw hs80
          replace hf := hf.nw hs80
          replace hlh := hlh.nw hs80
          replace hw68 := hw68.nw hs80
          replace hx68 := fun x hx_ => (hx68 x hx_).nw hs80
          replace rd79 := rd79.nw hs80
          replace hm0 := hm0.tr hs80
          replace hlm1 := hlm1.trN hs80
          replace hcm17 := hcm17.trN hs80
          have hz17 := hs80.size
          rw [hrl68, decide_eq_true rfl]
          refine LR.v (Y.not rfl rfl) (Wd.g rfl rfl rfl) rfl rfl ?_
          refine LR.v (Y.pick_f rfl rfl rfl) (Wd.u rfl) rfl rfl ?_
          refine LR.nil ?_
          refine hK31 _ _ ?_
          refine CW.cond_f rfl ?_
          refine CW.skip ?_
          refine hK18 _ _ ?_
          refine QN.sub (hK17 (Q68, g68, (openD ((appD Di [106] i false m[i].2).2.2.2.crash [(i : Int)]) [106]).2.2, lb68) _ ?_) ⟨rfl, rfl, rfl, rfl, (iv (by omega)), trivial⟩
          exact ⟨hf, by rw [hl68] at hlh; exact hlh, ⟨by rw [hop]; exact hcr.1, by rw [hop]; exact hcr.2.2.1, by rw [hop]; exact hcr.2.2.2⟩, hB4.mono (by omega), nx186, (Nx.z (nx199)), dl268, hcm17⟩
        ·
          refine CW.skip ?_
          refine hK18 _ _ ?_
          refine QN.sub (hK17 (Q41, g41, (appD Di [106] i false m[i].2).2.2.2, lb) _ ?_) ⟨rfl, rfl, rfl, rfl, (iv (by omega)), trivial⟩
          exact ⟨hf, by rw [a2, a3] at hlg; exact hlg, ⟨a4, a5, a6⟩, hB2.mono (by omega), nx59, nx_hcm17_hlg, dl241, hcm17⟩
    ·
      rintro ⟨Qx, gx, Dx, lx⟩ Hcut1 hIcut1
      obtain ⟨hf, hlg, hfl3, hB3, nxl_hf, nxl_hlg, dj_hf_hlg, hlmcut1⟩ := hIcut1
      have df202 := DFL.appK (df24) (bf_mx.mono hm0.size) nxl_hf
      have df203 := DFL.appK (df25) (bf_hl.mono hm0.size) nxl_hf
      have df204 := DFL.appK (df26) (bf_hx.mono hm0.size) nxl_hf
      have df205 := DFL.appK (df27) (bf_hbo.mono hm0.size) nxl_hf
      have df206 := DFL.appK (df28) (bf_hm.mono (by omega)) nxl_hf
      have df207 := DFL.appK (df29) (bf_hxm.mono (by omega)) nxl_hf
      have df208 := DFL.appK (df30) (bf_hw24.mono (by omega)) nxl_hf
      have df209 := DFL.appK (df31) (bf_hx24.mono (by omega)) nxl_hf
      have nx210 : NxK [] H0.size Qx := NxK.tr (nx32) nxl_hf hm0.size
      have nx211 : NxK Q24 H24.size Qx := NxK.tr (nx43) nxl_hf hlm1.size
      have df212 := DF.app (df33) (bf_mx.mono hm0.size) nxl_hlg
      have df213 := DF.app (df34) (bf_hl.mono hm0.size) nxl_hlg
      have df214 := DF.app (df35) (bf_hx.mono hm0.size) nxl_hlg
      have df215 := DF.app (df36) (bf_hbo.mono hm0.size) nxl_hlg
      have df216 := DF.app (df37) (bf_hm.mono (by omega)) nxl_hlg
      have df217 := DF.app (df38) (bf_hxm.mono (by omega)) nxl_hlg
      have df218 := DF.app (df39) (bf_hw24.mono (by omega)) nxl_hlg
      have df219 := DF.app (df40) (bf_hx24.mono (by omega)) nxl_hlg
      have nx220 : Nx 0 H0.size ((lx + 1)) := Nx.tr (nx41) nxl_hlg hm0.size
      have nx221 : Nx (lb24 + 1) H24.size ((lx + 1)) := Nx.tr (nx44) nxl_hlg hlm1.size
      replace mx := mx.upL hlmcut1 (DFL.app df24 (DFL.cons df33 DFL.nil))
      replace hl := hl.upL hlmcut1 (DFL.app df25 (DFL.cons df34 DFL.nil))
      replace hx := fun x hx0 => (hx x hx0).upL hlmcut1 (DFL.app df26 (DFL.cons df35 DFL.nil))
      replace hbo := hbo.upL hlmcut1 (DFL.app df27 (DFL.cons df36 DFL.nil))
      replace hm := hm.upL hlmcut1 (DFL.app df28 (DFL.cons df37 DFL.nil))
      replace hxm := fun x hx_ => (hxm x hx_).upL hlmcut1 (DFL.app df29 (DFL.cons df38 DFL.nil))
      replace hw24 := hw24.upL hlmcut1 (DFL.app df30 (DFL.cons df39 DFL.nil))
      replace hx24 := fun x hx_ => (hx24 x hx_).upL hlmcut1 (DFL.app df31 (DFL.cons df40 DFL.nil))
      replace hm0 := (Mo.trL (ks := []) (hm0.mdn []) hlmcut1 (MIL.app (MIL.ofK0 (nx32)) (MIL.cons (MI.app MI.z (nx41) (Nat.le_refl _)) MIL.nil))).nil
      replace hlm1 := hlm1.trL hlmcut1 (MIL.app (MIL.ofK (nx43) (by intro k hk; simp [hk])) (MIL.cons (MI.app (MI.root (by simp)) (nx44) (Nat.le_refl _)) MIL.nil))
      have hz18 := hlmcut1.size
      have hbk_hf := hf.bk
      have hle_hlg := hlg.le
      have dj222 := dj_hf_hlg
      have nx223 := nxl_hf
      have nx224 := nxl_hlg
      refine CW.region ?_
      refine LR.v (Y.move rfl rfl) (Wd.u rfl) rfl rfl ?_
      refine LR.v (Y.addi rfl rfl rfl (by omega)) (Wd.u rfl) rfl rfl ?_
      refine LR.v (Y.assign rfl rfl) (Wd.u rfl) rfl rfl ?_
      refine LR.nil ?_
      refine QN.sub (hN14 (i + 1, Qx, gx, Dx, lx) _ ?_ ?_) ⟨rfl, rfl, rfl, rfl, (iv (by omega)), trivial⟩
      · exact ⟨hf, hlg, (by omega), hfl3, hB3.mono (by omega), nx211, nx221, dj222, hlm1⟩
      · first | omega | (simp only; omega) | (simp; omega)
  ·
    refine CW.exit (hE15 (.exit 0) nofun _ _ (hE14 (.exit 0) nofun _ _ (hX13 _ _ ?_)))
    refine hK11 _ _ ?_
    refine CW.seq (fun K32 hK32 hE32 => ?_)
    refine CW.region ?_
    refine LR.v (Y.assign rfl rfl) (Wd.u rfl) rfl rfl ?_
    refine LR.nil ?_
    refine hK32 _ _ ?_
    refine CW.ret (hret .ret (.inr rfl) _ _ _ (res1 rfl rfl) ?_)
    exact ⟨rfl, hm0⟩

end Go.Proofs.YtdliddjkacbggaaGreatDoor.WalN
/-
  How the arguments of a statement read, with what their reach says of their sizes: no condition.
-/
namespace Go.Proofs.YtdliddjkacbggaaGreatDoor.E
set_option linter.unusedVariables false
set_option linter.unusedSimpArgs false
set_option linter.unusedSectionVars false
open Go.ChangeShapes Go.WideShapes Go.ChangeAt Go.RowKit Go.Deep
section
variable {H : Type} {enc : TypeId × Value → H} {P : Program} {W : World} {base : Nat} {sp : Nat → Bool} {held : Bool}
theorem mem_weightsAll {e : TypeId} {d : DataW H} : ∀ {ds : List (DataW H)}, d ∈ ds → ∀ n ∈ d.weights P e, n ∈ DataW.weightsAll P e ds
  | x :: ds, h, n, hn => by
    simp only [DataW.weightsAll, List.mem_append]
    rcases List.mem_cons.1 h with rfl | h
    · exact .inl hn
    · exact .inr (mem_weightsAll h n hn)
/-- what a datum weighs lies within the reach -/
def Wt (P : Program) (t : TypeId) (d : DataW H) : Prop := ∀ n ∈ d.weights P t, n ≤ reachBytes
theorem Wt.of {ts : List TypeId} {ds : List (DataW H)} {j : Nat} {t : TypeId} {d : DataW H} (h : (DataW.weightsEach P ts ds).all (· ≤ reachBytes) = true) (ht : ts[j]? = some t) (hd : ds[j]? = some d) : Wt P t d := fun n hn => by
  have := List.all_eq_true.1 h _ (DataW.weights_mem_each ht hd n hn)
  simpa using this
theorem Wt.slice {t e : TypeId} {els spr : List (DataW H)} (hu : P.underlying t = some (.slice e)) (h : Wt P t (.slice els spr)) : (els.length + spr.length) * P.bytesOf e ≤ reachBytes ∧ ∀ x ∈ els, Wt P e x :=
  ⟨h _ (by simp [DataW.weights, hu]), fun x hx n hn => h n (by simp only [DataW.weights, hu, List.mem_cons, List.mem_append]; exact .inr (.inl (mem_weightsAll hx n hn)))⟩
theorem Wt.each {t : TypeId} {fs : Array Field} {ds : List (DataW H)} {j : Nat} {f : TypeId} {d : DataW H} (hu : P.underlying t = some (.struct fs)) (h : Wt P t (.agg ds)) (hf : (fs.toList.map (·.type))[j]? = some f) (hd : ds[j]? = some d) : Wt P f d := fun n hn =>
  h n (by simp only [DataW.weights, hu]; exact DataW.weights_mem_each hf hd n hn)
end
end Go.Proofs.YtdliddjkacbggaaGreatDoor.E
