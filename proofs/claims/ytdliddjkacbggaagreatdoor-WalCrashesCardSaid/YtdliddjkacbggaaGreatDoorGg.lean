/-
  Contracts of functions of the program, and plain laws: put together of several texts.
-/
import Derived.Test.YtdliddjkacbggaaGreatDoorGf
import Derived.Test.YtdliddjkacbggaaGreatDoorGb
import Derived.SizedLaws
/-
  A journal: read as it was written, cut anywhere; on a disk that is too small.
-/
namespace Go.Proofs.YtdliddjkacbggaaGreatDoor.WalL
open Go.Proofs.YtdliddjkacbggaaGreatDoor.E Go.RowKit Go.Proofs.YtdliddjkacbggaaGreatDoor.SumB Go.Proofs.YtdliddjkacbggaaGreatDoor.SumC Go.Proofs.YtdliddjkacbggaaGreatDoor.SumF Go.Proofs.YtdliddjkacbggaaGreatDoor.SumG Go.Proofs.YtdliddjkacbggaaGreatDoor.DelA Go.Proofs.YtdliddjkacbggaaGreatDoor.SimA Go.Proofs.YtdliddjkacbggaaGreatDoor.SimB Go.Proofs.YtdliddjkacbggaaGreatDoor.SimC Go.Proofs.YtdliddjkacbggaaGreatDoor.SimD Go.Proofs.YtdliddjkacbggaaGreatDoor.SimE Go.Proofs.YtdliddjkacbggaaGreatDoor.SimF Go.Proofs.YtdliddjkacbggaaGreatDoor.SimG Go.Proofs.YtdliddjkacbggaaGreatDoor.SimH Go.Proofs.YtdliddjkacbggaaGreatDoor.SimI Go.Proofs.YtdliddjkacbggaaGreatDoor.SimQ Go.Proofs.YtdliddjkacbggaaGreatDoor.SimR Go.Proofs.YtdliddjkacbggaaGreatDoor.SimS Go.Proofs.YtdliddjkacbggaaGreatDoor.SimU Go.Proofs.YtdliddjkacbggaaGreatDoor.SimY Go.Proofs.YtdliddjkacbggaaGreatDoor.SimYA Go.Proofs.YtdliddjkacbggaaGreatDoor.SimYE Go.Proofs.YtdliddjkacbggaaGreatDoor.WalA Go.Proofs.YtdliddjkacbggaaGreatDoor.WalB Go.Proofs.YtdliddjkacbggaaGreatDoor.WalC Go.Proofs.YtdliddjkacbggaaGreatDoor.WalD Go.Proofs.YtdliddjkacbggaaGreatDoor.WalE Go.Proofs.YtdliddjkacbggaaGreatDoor.WalF Go.Proofs.YtdliddjkacbggaaGreatDoor.WalG Go.Proofs.YtdliddjkacbggaaGreatDoor.WalH Go.Proofs.YtdliddjkacbggaaGreatDoor.WalI Go.Proofs.YtdliddjkacbggaaGreatDoor.WalJ Go.Proofs.YtdliddjkacbggaaGreatDoor.WalK
set_option maxRecDepth 20000
set_option linter.unusedVariables false
set_option linter.unusedSimpArgs false
set_option linter.unusedSectionVars false

theorem encW_take {l : List (SV × Rec)} {k : Nat} (h : k < l.length) : (encW (recs (l.take (k + 1)))).length = (encW (recs (l.take k))).length + (13 + l[k].2.length) := by
  unfold encW; rw [encN_take h, List.length_append, List.length_append, List.length_append, recW_len]; omega
theorem bs_mend2 {N M : Nat} {D : Dk} (h : Bs N D) (p : Pth) (n : Nat) (hM : (D.readL p).length + 8 ≤ M) : Bs (N + 4 * (M + 20)) (mendD D p n).2 := by
  unfold mendD; split
  · exact h.mono (by omega)
  · split
    · exact h.mono (by omega)
    · exact (bs_fresh h p _).mono (by have := encW_bd (D.readL p) n; omega)
theorem bs_app2 {N M : Nat} {D : Dk} (h : Bs N D) (p : Pth) (n : Nat) (br : Bool) (r : Rec) (hM : (D.readL p).length + 8 ≤ M) : Bs (N + 4 * (M + 20) + 4 * (r.length + 20)) (appD D p n br r).2.2.2 := by
  have h1 : Bs (N + 4 * (M + 20)) (preD D p n br).2.2 := by
    unfold preD; split
    · exact bs_mend2 h p n hM
    · exact h.mono (by omega)
  unfold appD; split
  · exact h1.mono (by omega)
  · exact (bs_run (apS_bs p _ r) h1).mono (by simp [apS]; omega)
/-- a journal, and what stands behind it -/
structure Fj (cap : Nat) (p : Pth) (l : List Rec) (br : Bool) (D : Dk) : Prop where
  ex : ∃ t, One cap 65536 p (encW l ++ t) D ∧ oneW l.length t = none ∧ (br = false → t = []) ∧ (encW l ++ t).length ≤ cap
theorem Fj.parse {cap : Nat} {p : Pth} {l : List Rec} {br : Bool} {D : Dk} (h : Fj cap p l br D) (n1 : nameB p = true) (hl : ∀ r ∈ l, r.length ≤ 1048576) : D.readE p = 0 ∧ parE (D.readL p) = 0 ∧ parL (D.readL p) = l ∧ (D.readL p).length ≤ cap := by
  obtain ⟨t, h1, h2, _, h4⟩ := h.ex
  obtain ⟨r1, r2⟩ := h1.read n1
  rw [r2]
  have := parL_enc l t hl
  rw [parP_stop h2, List.append_nil] at this
  exact ⟨r1, parE_enc l t, this, h4⟩
theorem Fj.step {cap : Nat} {p : Pth} {l : List Rec} {br : Bool} {D : Dk} {r : Rec} (h : Fj cap p l br D) (n1 : nameB p = true) (n2 : nameB (newP p) = true) (hd : dirE (dirP p) = 0) (hl : ∀ r ∈ l, r.length ≤ 1048576) (hr : r.length ≤ 1048576) (hr3 : r.length ≤ 3000) (hc : cap ≤ 4000) :
    ((appD D p l.length br r).1 = 0 ∧ (appD D p l.length br r).2.1 = l.length + 1 ∧ Fj cap p (l ++ [r]) (appD D p l.length br r).2.2.1 (appD D p l.length br r).2.2.2) ∨ ((appD D p l.length br r).1 = 12 ∧ (appD D p l.length br r).2.1 = l.length ∧ Fj cap p l (appD D p l.length br r).2.2.1 (appD D p l.length br r).2.2.2) := by
  -- a journal that is whole
  have main : ∀ {D : Dk} {br0 : Bool} {D0 : Dk}, One cap 65536 p (encW l) D → (encW l).length ≤ cap → preD D0 p l.length br0 = (0, l.length, D) →
      ((appD D0 p l.length br0 r).1 = 0 ∧ (appD D0 p l.length br0 r).2.1 = l.length + 1 ∧ Fj cap p (l ++ [r]) (appD D0 p l.length br0 r).2.2.1 (appD D0 p l.length br0 r).2.2.2) ∨ ((appD D0 p l.length br0 r).1 = 12 ∧ (appD D0 p l.length br0 r).2.1 = l.length ∧ Fj cap p l (appD D0 p l.length br0 r).2.2.1 (appD D0 p l.length br0 r).2.2.2) := by
    intro D br0 D0 hO hle hp
    rw [app_go hp]
    rcases hO.recd2 n1 l.length r (by omega) with ⟨h1, h2⟩ | ⟨h1, h2, h3⟩
    · rw [if_neg (by rw [h1]; decide), if_neg (by rw [h1]; decide)]
      refine .inr ⟨h1, rfl, ?_⟩
      rcases h2 with h2 | ⟨h2, h3⟩
      · exact ⟨[], by rw [List.append_nil]; exact h2, by simp [oneW], fun _ => rfl, by rw [List.append_nil]; exact hle⟩
      · exact ⟨layW l.length r, h2, lay_none _ _ hr, fun h => (by cases h), h3⟩
    · rw [if_pos h1, if_pos h1]
      exact .inl ⟨h1, rfl, [], by rw [List.append_nil, encW_snoc]; exact h2, by simp [oneW], fun _ => rfl, by rw [List.append_nil, encW_snoc]; exact h3⟩
  obtain ⟨t, h1, h2, h3, h4⟩ := h.ex
  cases hb : br with
  | false =>
    have e := h3 hb
    rw [e, List.append_nil] at h1 h4
    exact main h1 h4 (pre_0 rfl)
  | true =>
    obtain ⟨q1, q2, q3, q4⟩ := h.parse n1 hl
    have hm := mend_3 (n := l.length) q1 q2
    rw [q3, List.take_length] at hm
    have hmn : mendN D p l.length = l.length := by unfold mendN; rw [q3, List.take_length]
    have hlen : (encW l).length ≤ 65536 := by rw [List.length_append] at h4; omega
    rcases h1.fresh n1 n2 hd l hlen with ⟨f1, f2, f3⟩ | ⟨f1, f2, f3⟩
    · have hz : (mendD D p l.length).1 ≠ 0 := by rw [hm, f1]; decide
      rw [app_bad rfl hz, hm]
      exact .inr ⟨f1, rfl, t, f3, h2, fun h => (by cases h), h4⟩
    · refine main f3 (by omega) ?_
      rw [pre_1 rfl, hm, f1, hmn]
theorem Fj.start {cap : Nat} {p : Pth} (n1 : nameB p = true) (n2 : nameB (newP p) = true) (hd : dirE (dirP p) = 0) (hc : 8 ≤ cap) : (openD (Dk.empty cap 65536) p).1 = 0 ∧ (openD (Dk.empty cap 65536) p).2.1 = [] ∧ Fj cap p [] false (openD (Dk.empty cap 65536) p).2.2 := by
  obtain ⟨h1, h2, h3⟩ := One.start (cap := cap) (most := 65536) n1 n2 hd (by decide) hc
  exact ⟨h1, h2, [], by rw [List.append_nil]; exact h3, by simp [oneW], fun _ => rfl, by rw [List.append_nil]; exact hc⟩

end Go.Proofs.YtdliddjkacbggaaGreatDoor.WalL
/-
  A journal on a disk that stops and crashes (plain data).
-/
namespace Go.Proofs.YtdliddjkacbggaaGreatDoor.WalM
open Go.Proofs.YtdliddjkacbggaaGreatDoor.E Go.RowKit Go.Proofs.YtdliddjkacbggaaGreatDoor.SimA Go.Proofs.YtdliddjkacbggaaGreatDoor.SimB Go.Proofs.YtdliddjkacbggaaGreatDoor.SimC Go.Proofs.YtdliddjkacbggaaGreatDoor.SimD Go.Proofs.YtdliddjkacbggaaGreatDoor.SimE Go.Proofs.YtdliddjkacbggaaGreatDoor.SimF Go.Proofs.YtdliddjkacbggaaGreatDoor.SimG Go.Proofs.YtdliddjkacbggaaGreatDoor.SimH Go.Proofs.YtdliddjkacbggaaGreatDoor.SimI Go.Proofs.YtdliddjkacbggaaGreatDoor.SimN Go.Proofs.YtdliddjkacbggaaGreatDoor.SimQ Go.Proofs.YtdliddjkacbggaaGreatDoor.SimR Go.Proofs.YtdliddjkacbggaaGreatDoor.SimS Go.Proofs.YtdliddjkacbggaaGreatDoor.SimU Go.Proofs.YtdliddjkacbggaaGreatDoor.SimY Go.Proofs.YtdliddjkacbggaaGreatDoor.SimYA Go.Proofs.YtdliddjkacbggaaGreatDoor.SimYE Go.Proofs.YtdliddjkacbggaaGreatDoor.WalA Go.Proofs.YtdliddjkacbggaaGreatDoor.WalB Go.Proofs.YtdliddjkacbggaaGreatDoor.WalC Go.Proofs.YtdliddjkacbggaaGreatDoor.WalD Go.Proofs.YtdliddjkacbggaaGreatDoor.WalE Go.Proofs.YtdliddjkacbggaaGreatDoor.WalF Go.Proofs.YtdliddjkacbggaaGreatDoor.WalG Go.Proofs.YtdliddjkacbggaaGreatDoor.WalH Go.Proofs.YtdliddjkacbggaaGreatDoor.WalI Go.Proofs.YtdliddjkacbggaaGreatDoor.WalL
set_option maxRecDepth 20000
set_option linter.unusedVariables false
set_option linter.unusedSimpArgs false
set_option linter.unusedSectionVars false

theorem runD_nil (D : Dk) : runD [] D = (0, D) := rfl
theorem begin_cases {D : Dk} (h : D.dead = false) : (D.begin.1 = false ∧ D.begin.2 = ({ D with left := 0, dead := true } : Dk) ∧ D.left = 1) ∨ (D.begin.1 = true ∧ D.begin.2 = ({ D with left := D.left - 1, ops := D.ops + 1 } : Dk) ∧ D.left ≠ 1) := by
  by_cases h1 : D.left = 1
  · refine .inl ?_
    unfold Dk.begin; rw [if_neg (by rw [h]; decide), if_pos h1]; exact ⟨rfl, rfl, h1⟩
  · refine .inr ?_
    unfold Dk.begin; rw [if_neg (by rw [h]; decide), if_neg h1]; exact ⟨rfl, rfl, h1⟩
theorem way_form (d b : List UInt8) (q : Nat) : ∃ a z, a + z ≤ d.length ∧ wayW [⟨true, d⟩] b q = b ++ d.take a ++ List.replicate z 0 := by
  unfold wayW
  split
  · exact ⟨0, 0, by omega, by simp⟩
  · rename_i h0
    split
    · rename_i h1
      unfold Wr.ways at h1
      unfold Wr.part
      split
      · exact ⟨min (q - 1 + 1) d.length, 0, by omega, by simp [Wr.on]⟩
      · rename_i h2
        simp only at h1 h2
        refine ⟨q - 1 - d.length, d.length - (q - 1 - d.length), by omega, by simp [Wr.on]⟩
    · exact ⟨d.length, 0, by omega, by simp [wayW, Wr.on]⟩
theorem way_len {d b : List UInt8} {n : Nat} (q : Nat) (hd : d.length ≤ n) (hb : b.length ≤ n) : (wayW [⟨false, d⟩] b q).length ≤ n := by
  refine wayW_len _ _ _ (fun j => ?_)
  cases j with
  | zero => simpa [onAll] using hb
  | succ j => simpa [onAll, Wr.on] using hd
/-! ### what a crash leaves -/
theorem crash_names {D : Dk} {d : Pth} (h : ∀ c ∈ D.log, c.dir = d) (picks : List Int) : ∃ j, j ≤ D.log.length ∧ (D.crashN picks).1 = apl (D.log.take j) D.stays := by
  have hc : D.chgs d = D.log := by unfold Dk.chgs; rw [List.filter_eq_self]; intro c hc; simpa using h c hc
  rw [← D.crashN_any picks (L := [d]) (List.pairwise_singleton _ _) (fun n hn => by
    unfold Dk.chgs at hn
    obtain ⟨c, hc2⟩ := List.exists_mem_of_ne_nil _ hn
    have h2 := List.mem_filter.1 hc2
    have : c.dir = n := by simpa using h2.2
    rw [List.mem_singleton, ← this, h c h2.1])]
  simp only [List.foldl_cons, List.foldl_nil]
  unfold crashD
  split
  · rename_i h0
    rw [hc] at h0
    exact ⟨0, Nat.zero_le _, by rw [List.take_zero, apl_nil]⟩
  · rw [hc]
    exact ⟨min (pickN picks 0 (D.log.length + 1)) D.log.length, Nat.min_le_right _ _, by simp only; rw [← List.take_eq_take_min]⟩
theorem crashF_skip {picks : List Int} {s : List Fdt × Nat} {x : Pth × Nat} (h : (fget s.1 x.2).w = []) : crashF picks s x = s := by unfold crashF; simp only; rw [if_pos h]
theorem crashF_do {picks : List Int} {s : List Fdt × Nat} {x : Pth × Nat} (hl : x.2 < s.1.length) : ∃ q, (crashF picks s x).1.length = s.1.length ∧ (∀ i, i ≠ x.2 → fget (crashF picks s x).1 i = fget s.1 i) ∧ ((fget s.1 x.2).w = [] → crashF picks s x = s) ∧ ((fget s.1 x.2).w ≠ [] → fget (crashF picks s x).1 x.2 = ⟨wayW (fget s.1 x.2).w (fget s.1 x.2).stays q, wayW (fget s.1 x.2).w (fget s.1 x.2).stays q, []⟩) := by
  refine ⟨pickN picks s.2 (waysF (fget s.1 x.2).w), ?_, fun i hi => ?_, crashF_skip, fun h => ?_⟩
  · unfold crashF; simp only; split
    · rfl
    · simp
  · unfold crashF; simp only; split
    · rfl
    · show fget (s.1.set _ _) i = _; rw [fget_set, if_neg (fun h => hi h.1)]
  · unfold crashF; simp only; rw [if_neg h]
    show fget (s.1.set _ _) _ = _; rw [fget_set, if_pos ⟨rfl, hl⟩]
/-! ### a journal at rest: all of it stays -/
structure Fl (p : Pth) (c : List UInt8) (D : Dk) : Prop where
  cap : 1048576 ≤ D.cap
  most : 1048576 ≤ D.most
  log : D.log = []
  st : D.stays = D.now
  cl : c.length ≤ 200000
  ex : ∃ i, i < D.fs.length ∧ fget D.fs i = ⟨c, c, []⟩ ∧ (D.now = [(p, i)] ∨ ∃ k x, k < D.fs.length ∧ k ≠ i ∧ fget D.fs k = ⟨x, x, []⟩ ∧ x.length ≤ 200000 ∧ D.now = [(p, i), (newP p, k)])
section
variable {p : Pth} {c e : List UInt8} {D : Dk} {l : List Rec} {r : Rec}
theorem Fl.of {D2 : Dk} (h : Fl p c D) (h1 : D2.cap = D.cap) (h2 : D2.most = D.most) (h3 : D2.log = D.log) (h4 : D2.stays = D.stays) (h5 : D2.now = D.now) (h6 : D2.fs = D.fs) : Fl p c D2 :=
  ⟨by rw [h1]; exact h.cap, by rw [h2]; exact h.most, by rw [h3]; exact h.log, by rw [h4, h5]; exact h.st, h.cl, by rw [h6, h5]; exact h.ex⟩
theorem Fl.stop (h : Fl p c D) (n : Nat) : Fl p c (D.stop n) := h.of rfl rfl rfl rfl rfl rfl
theorem Fl.get (h : Fl p c D) : ∃ i, mget D.now p = some i ∧ i < D.fs.length ∧ fget D.fs i = ⟨c, c, []⟩ := by
  obtain ⟨i, h1, h2, h3⟩ := h.ex
  rcases h3 with h3 | ⟨k, x, _, _, _, _, h3⟩
  · exact ⟨i, by rw [h3]; simp [mget], h1, h2⟩
  · exact ⟨i, by rw [h3]; simp [mget], h1, h2⟩
theorem Fl.was (h : Fl p c D) : D.wasL p = c := by
  obtain ⟨i, h1, _, h2⟩ := h.get
  unfold Dk.wasL; rw [h1]; simp [h2]
theorem Fl.used (h : Fl p c D) : D.used ≤ c.length + 200000 ∧ c.length ≤ D.used := by
  obtain ⟨i, h1, h2, h3⟩ := h.ex
  unfold Dk.used usedL
  rcases h3 with h3 | ⟨k, x, _, _, h4, h5, h3⟩
  · rw [h3]; simp [h2]
  · rw [h3]; simp [h2, h4]; omega
theorem Fl.crash (h : Fl p c D) (picks : List Int) : Fl p c (D.crash picks) ∧ (D.crashA picks).2 = 0 ∧ (D.crash picks).dead = false ∧ (D.crash picks).left = 0 := by
  have hN : D.crashN picks = (D.now, 0) := by unfold Dk.crashN Dk.dirty; rw [h.log, h.st]; rfl
  obtain ⟨i, h1, h2, h3⟩ := h.ex
  have hA : D.crashA picks = (D.fs, 0) := by
    unfold Dk.crashA; rw [hN]
    rcases h3 with h3 | ⟨k, x, _, _, h4, h5, h3⟩
    · rw [h3]; simp only [List.foldl_cons, List.foldl_nil]; rw [crashF_skip (by simp only; rw [h2])]
    · rw [h3]; simp only [List.foldl_cons, List.foldl_nil]; rw [crashF_skip (x := (p, i)) (by simp only; rw [h2]), crashF_skip (by simp only; rw [h4])]
  refine ⟨⟨h.cap, h.most, rfl, rfl, h.cl, i, ?_, ?_, ?_⟩, by rw [hA], rfl, rfl⟩
  · show i < (D.crashA picks).1.length; rw [hA]; exact h1
  · show fget (D.crashA picks).1 i = _; rw [hA]; exact h2
  · show (D.crashN picks).1 = _ ∨ ∃ k x, k < (D.crashA picks).1.length ∧ k ≠ i ∧ fget (D.crashA picks).1 k = _ ∧ _ ∧ (D.crashN picks).1 = _
    rw [hA, hN]; exact h3
/-- a new journal beside the elder one -/
structure A1 (p : Pth) (c e : List UInt8) (D : Dk) : Prop where
  cap : 1048576 ≤ D.cap
  most : 1048576 ≤ D.most
  cl : c.length ≤ 200000
  el : e.length ≤ 200000
  ex : ∃ i k y w, i < D.fs.length ∧ k < D.fs.length ∧ k ≠ i ∧ fget D.fs i = ⟨c, c, []⟩ ∧ fget D.fs k = ⟨e, y, w⟩ ∧ (w = [⟨false, e⟩] ∨ w = [] ∧ y = e) ∧ y.length ≤ 200000 ∧ D.now = [(p, i), (newP p, k)] ∧ (D.stays = [(p, i)] ∧ D.log = [⟨[], newP p, some k⟩] ∨ D.stays = [(p, i), (newP p, k)] ∧ D.log = [])
theorem A1.of {D2 : Dk} (h : A1 p c e D) (h1 : D2.cap = D.cap) (h2 : D2.most = D.most) (h3 : D2.log = D.log) (h4 : D2.stays = D.stays) (h5 : D2.now = D.now) (h6 : D2.fs = D.fs) : A1 p c e D2 :=
  ⟨by rw [h1]; exact h.cap, by rw [h2]; exact h.most, h.cl, h.el, by rw [h6, h5, h4, h3]; exact h.ex⟩
/-- it has the elder one's name -/
structure A3 (p : Pth) (c e : List UInt8) (D : Dk) : Prop where
  cap : 1048576 ≤ D.cap
  most : 1048576 ≤ D.most
  cl : c.length ≤ 200000
  el : e.length ≤ 200000
  ex : ∃ i k, i < D.fs.length ∧ k < D.fs.length ∧ k ≠ i ∧ fget D.fs i = ⟨c, c, []⟩ ∧ fget D.fs k = ⟨e, e, []⟩ ∧ D.now = [(p, k)] ∧ (D.stays = [(p, i)] ∧ D.log = [⟨[], newP p, some k⟩, ⟨newP p, p, some k⟩] ∨ D.stays = [(p, i), (newP p, k)] ∧ D.log = [⟨newP p, p, some k⟩])
theorem A3.of {D2 : Dk} (h : A3 p c e D) (h1 : D2.cap = D.cap) (h2 : D2.most = D.most) (h3 : D2.log = D.log) (h4 : D2.stays = D.stays) (h5 : D2.now = D.now) (h6 : D2.fs = D.fs) : A3 p c e D2 :=
  ⟨by rw [h1]; exact h.cap, by rw [h2]; exact h.most, h.cl, h.el, by rw [h6, h5, h4, h3]; exact h.ex⟩
theorem nput2 {i k : Nat} : nput [(p, i)] (newP p) k = [(p, i), (newP p, k)] := by simp [nput, blt_new]
theorem nput3 {i k j : Nat} : nput [(p, i), (newP p, k)] p j = [(p, j), (newP p, k)] := by simp [nput, blt_irr]
theorem mdel3 {i k : Nat} : mdel [(p, i), (newP p, k)] (newP p) = [(p, i)] := by
  have h9 : ¬ p = newP p := fun e => new_ne p e.symm
  simp [mdel, h9]
theorem ap_add {i k : Nat} : Chg.ap ⟨[], newP p, some k⟩ [(p, i)] = [(p, i), (newP p, k)] := by simp only [Chg.ap, if_true]; exact nput2
theorem ap_ren {i k : Nat} : Chg.ap ⟨newP p, p, some k⟩ [(p, i), (newP p, k)] = [(p, k)] := by
  unfold Chg.ap; rw [if_neg (new_nn p), mdel3]; simp [nput, blt_irr]
theorem dir_add {k : Nat} (n1 : nameB p = true) (n2 : nameB (newP p) = true) : Chg.dir ⟨[], newP p, some k⟩ = dirP p := by unfold Chg.dir; rw [if_pos rfl]; exact dirP_new n1 n2
theorem dir_ren {k : Nat} (n1 : nameB p = true) (n2 : nameB (newP p) = true) : Chg.dir ⟨newP p, p, some k⟩ = dirP p := by unfold Chg.dir; rw [if_neg (new_nn p)]; exact dirP_new n1 n2
theorem le1 {j : Nat} (h : j ≤ 1) : j = 0 ∨ j = 1 := by omega
theorem le2 {j : Nat} (h : j ≤ 2) : j = 0 ∨ j = 1 ∨ j = 2 := by omega
theorem A1.crash (h : A1 p c e D) (n1 : nameB p = true) (n2 : nameB (newP p) = true) (picks : List Int) : Fl p c (D.crash picks) := by
  obtain ⟨i, k, y, w, h1, h2, h3, h4, h5, h6, h7, h8, h9⟩ := h.ex
  have hd : ∀ ch ∈ D.log, ch.dir = dirP p := by
    intro ch hc
    rcases h9 with ⟨_, h9⟩ | ⟨_, h9⟩
    · rw [h9, List.mem_singleton] at hc; rw [hc]; exact dir_add n1 n2
    · rw [h9] at hc; cases hc
  obtain ⟨j, hj, hN⟩ := crash_names hd picks
  have hN2 : (D.crashN picks).1 = [(p, i)] ∨ (D.crashN picks).1 = [(p, i), (newP p, k)] := by
    rw [hN]
    rcases h9 with ⟨e1, e2⟩ | ⟨e1, e2⟩
    · rw [e2] at hj ⊢
      rw [e1]
      rcases le1 hj with rfl | rfl
      · exact .inl rfl
      · refine .inr ?_; simp only [List.take_succ_cons, List.take_zero, apl, List.foldl_cons, List.foldl_nil]; exact ap_add
    · rw [e2] at hj ⊢; rw [e1]; simp [apl]
  rcases hN2 with hN2 | hN2
  · have hA : (D.crashA picks).1 = D.fs := by
      unfold Dk.crashA; rw [hN2]; simp only [List.foldl_cons, List.foldl_nil]; rw [crashF_skip (by simp only; rw [h4])]
    exact ⟨h.cap, h.most, rfl, rfl, h.cl, i, by show i < (D.crashA picks).1.length; rw [hA]; exact h1, by show fget (D.crashA picks).1 i = _; rw [hA]; exact h4, .inl hN2⟩
  · have hA0 : D.crashA picks = crashF picks (D.fs, (D.crashN picks).2) (newP p, k) := by
      unfold Dk.crashA; rw [hN2]; simp only [List.foldl_cons, List.foldl_nil]; rw [crashF_skip (x := (p, i)) (by simp only; rw [h4])]
    obtain ⟨q, g1, g2, g3, g4⟩ := crashF_do (picks := picks) (s := (D.fs, (D.crashN picks).2)) (x := (newP p, k)) h2
    simp only at g1 g2 g3 g4
    have hk : ∃ x, fget (D.crashA picks).1 k = ⟨x, x, []⟩ ∧ x.length ≤ 200000 := by
      rw [hA0]
      rcases h6 with h6 | ⟨h6, h6b⟩
      · rw [g4 (by rw [h5, h6]; simp), h5, h6]
        exact ⟨_, rfl, way_len q h.el h7⟩
      · rw [g3 (by rw [h5, h6])]; simp only; rw [h5, h6, h6b]; exact ⟨e, rfl, h.el⟩
    obtain ⟨x, k1, k2⟩ := hk
    refine ⟨h.cap, h.most, rfl, rfl, h.cl, i, ?_, ?_, .inr ⟨k, x, ?_, h3, k1, k2, hN2⟩⟩
    · show i < (D.crashA picks).1.length; rw [hA0, g1]; exact h1
    · show fget (D.crashA picks).1 i = _; rw [hA0, g2 i (Ne.symm h3)]; exact h4
    · show k < (D.crashA picks).1.length; rw [hA0, g1]; exact h2
theorem A3.crash (h : A3 p c e D) (n1 : nameB p = true) (n2 : nameB (newP p) = true) (picks : List Int) : Fl p c (D.crash picks) ∨ Fl p e (D.crash picks) := by
  obtain ⟨i, k, h1, h2, h3, h4, h5, h8, h9⟩ := h.ex
  have hd : ∀ ch ∈ D.log, ch.dir = dirP p := by
    intro ch hc
    rcases h9 with ⟨_, h9⟩ | ⟨_, h9⟩
    · rw [h9] at hc; simp only [List.mem_cons, List.not_mem_nil, or_false] at hc
      rcases hc with hc | hc
      · rw [hc]; exact dir_add n1 n2
      · rw [hc]; exact dir_ren n1 n2
    · rw [h9, List.mem_singleton] at hc; rw [hc]; exact dir_ren n1 n2
  obtain ⟨j, hj, hN⟩ := crash_names hd picks
  have hN2 : (D.crashN picks).1 = [(p, i)] ∨ (D.crashN picks).1 = [(p, i), (newP p, k)] ∨ (D.crashN picks).1 = [(p, k)] := by
    rw [hN]
    rcases h9 with ⟨e1, e2⟩ | ⟨e1, e2⟩
    · rw [e2] at hj ⊢
      rw [e1]
      rcases le2 hj with rfl | rfl | rfl
      · exact .inl rfl
      · refine .inr (.inl ?_); simp only [List.take_succ_cons, List.take_zero, apl, List.foldl_cons, List.foldl_nil]; exact ap_add
      · refine .inr (.inr ?_); simp only [List.take_succ_cons, List.take_zero, apl, List.foldl_cons, List.foldl_nil]; rw [ap_add, ap_ren]
    · rw [e2] at hj ⊢; rw [e1]
      rcases le1 hj with rfl | rfl
      · exact .inr (.inl rfl)
      · refine .inr (.inr ?_); simp only [List.take_succ_cons, List.take_zero, apl, List.foldl_cons, List.foldl_nil]; exact ap_ren
  have hA : (D.crashA picks).1 = D.fs := by
    unfold Dk.crashA
    rcases hN2 with hN2 | hN2 | hN2
    · rw [hN2]; simp only [List.foldl_cons, List.foldl_nil]; rw [crashF_skip (by simp only; rw [h4])]
    · rw [hN2]; simp only [List.foldl_cons, List.foldl_nil]; rw [crashF_skip (x := (p, i)) (by simp only; rw [h4]), crashF_skip (by simp only; rw [h5])]
    · rw [hN2]; simp only [List.foldl_cons, List.foldl_nil]; rw [crashF_skip (by simp only; rw [h5])]
  have li : i < (D.crash picks).fs.length := by show i < (D.crashA picks).1.length; rw [hA]; exact h1
  have lk : k < (D.crash picks).fs.length := by show k < (D.crashA picks).1.length; rw [hA]; exact h2
  have fi : fget (D.crash picks).fs i = ⟨c, c, []⟩ := by show fget (D.crashA picks).1 i = _; rw [hA]; exact h4
  have fk : fget (D.crash picks).fs k = ⟨e, e, []⟩ := by show fget (D.crashA picks).1 k = _; rw [hA]; exact h5
  rcases hN2 with hN2 | hN2 | hN2
  · exact .inl ⟨h.cap, h.most, rfl, rfl, h.cl, i, li, fi, .inl hN2⟩
  · exact .inl ⟨h.cap, h.most, rfl, rfl, h.cl, i, li, fi, .inr ⟨k, e, lk, h3, fk, h.el, hN2⟩⟩
  · exact .inr ⟨h.cap, h.most, rfl, rfl, h.el, k, lk, fk, .inl hN2⟩
/-! ### the steps of making a journal anew -/
theorem mget_one {i : Nat} : mget [(p, i)] (newP p) = none := by simp [mget, new_ne]
theorem mget_two {i k : Nat} : mget [(p, i), (newP p, k)] (newP p) = some k := by simp [mget, new_ne]
theorem mget_fst {i : Nat} {m : Nms} : mget ((p, i) :: m) p = some i := by simp [mget]
theorem Fl.lay1 (h : Fl p c D) (hd : D.dead = false) (n2 : nameB (newP p) = true) (he : e.length ≤ 200000) :
    ((D.lay (newP p) ⟨false, e⟩).1 = 11 ∧ (D.lay (newP p) ⟨false, e⟩).2.dead = true ∧ Fl p c (D.lay (newP p) ⟨false, e⟩).2 ∧ D.left = 1) ∨
    ((D.lay (newP p) ⟨false, e⟩).1 = 0 ∧ (D.lay (newP p) ⟨false, e⟩).2.dead = false ∧ A1 p c e (D.lay (newP p) ⟨false, e⟩).2 ∧ (D.lay (newP p) ⟨false, e⟩).2.left = D.left - 1) := by
  rcases begin_cases hd with ⟨b1, b2, b3⟩ | ⟨b1, b2, b3⟩
  · rw [lay_dead b1, b2]
    exact .inl ⟨rfl, rfl, h.of rfl rfl rfl rfl rfl rfl, b3⟩
  · rw [lay_go b1, b2]
    obtain ⟨D1, hD1⟩ : ∃ D1 : Dk, D1 = { D with left := D.left - 1, ops := D.ops + 1 } := ⟨_, rfl⟩
    rw [← hD1]
    have h1 : Fl p c D1 := by rw [hD1]; exact h.of rfl rfl rfl rfl rfl rfl
    have hdd : D1.dead = false := by rw [hD1]; exact hd
    have hll : D1.left = D.left - 1 := by rw [hD1]
    have ho : ∀ b, ((⟨false, e⟩ : Wr).on b e.length) = e := fun b => on_f _ _
    have hu := h1.used
    have hE : D1.layE (newP p) ⟨false, e⟩ = 0 := layE_0 n2 (by simp only [ho]; have := h1.most; omega) (by simp only [ho]; have := h1.cap; have := h1.cl; omega)
    rw [hE]; simp only [if_true]
    refine .inr ⟨trivial, ?_⟩
    obtain ⟨i, e1, e2, e3⟩ := h1.ex
    rcases e3 with e3 | ⟨k, x, k1, k2, k3, k4, e3⟩
    · have hm : mget D1.now (newP p) = none := by rw [e3]; exact mget_one
      rw [write_two (k := 0) hm]
      refine ⟨hdd, ⟨h1.cap, h1.most, h1.cl, he, i, D1.fs.length, [], [⟨false, e⟩], ?_, ?_, ?_, ?_, ?_, .inl rfl, by simp, ?_, .inl ⟨?_, ?_⟩⟩, hll⟩
      · show i < ((_ : List Fdt).set _ _).length; rw [List.length_set, List.length_append]; omega
      · show D1.fs.length < ((_ : List Fdt).set _ _).length; rw [List.length_set, List.length_append]; simp
      · omega
      · show fget ((_ : List Fdt).set _ _) i = _; rw [fget_set, if_neg (by omega), fget_app e1]; exact e2
      · show fget ((_ : List Fdt).set _ _) _ = _; rw [fget_set, if_pos ⟨rfl, by simp⟩, ho]
      · show nput D1.now _ _ = _; rw [e3]; exact nput2
      · show D1.stays = _; rw [h1.st, e3]
      · show D1.log ++ _ = _; rw [h1.log]; rfl
    · have hm : mget D1.now (newP p) = some k := by rw [e3]; exact mget_two
      have hw : D1.write (newP p) ⟨false, e⟩ = D1.putF k ⟨e, x, [⟨false, e⟩]⟩ := by
        unfold Dk.write Dk.make; rw [hm]; simp only; rw [k3, ho]; rfl
      rw [hw]
      refine ⟨hdd, ⟨h1.cap, h1.most, h1.cl, he, i, k, x, [⟨false, e⟩], ?_, ?_, k2, ?_, ?_, .inl rfl, k4, e3, .inr ⟨?_, h1.log⟩⟩, hll⟩
      · show i < (D1.fs.set _ _).length; rw [List.length_set]; exact e1
      · show k < (D1.fs.set _ _).length; rw [List.length_set]; exact k1
      · show fget (D1.fs.set _ _) i = _; rw [fget_set, if_neg (fun h => k2 h.1.symm)]; exact e2
      · show fget (D1.fs.set _ _) k = _; rw [fget_set, if_pos ⟨rfl, k1⟩]
      · show D1.stays = _; rw [h1.st, e3]
def A2 (p : Pth) (c e : List UInt8) (D : Dk) : Prop := A1 p c e D ∧ ∃ k, mget D.now (newP p) = some k ∧ fget D.fs k = ⟨e, e, []⟩
theorem A1.sync (h : A1 p c e D) (hd : D.dead = false) (n2 : nameB (newP p) = true) :
    ((D.sync (newP p)).1 = 11 ∧ (D.sync (newP p)).2.dead = true ∧ A1 p c e (D.sync (newP p)).2 ∧ D.left = 1) ∨ ((D.sync (newP p)).1 = 0 ∧ (D.sync (newP p)).2.dead = false ∧ A2 p c e (D.sync (newP p)).2 ∧ (D.sync (newP p)).2.left = D.left - 1) := by
  rcases begin_cases hd with ⟨b1, b2, b3⟩ | ⟨b1, b2, b3⟩
  · rw [sync_dead b1, b2]
    exact .inl ⟨rfl, rfl, h.of rfl rfl rfl rfl rfl rfl, b3⟩
  · obtain ⟨i, k, y, w, h1, h2, h3, h4, h5, h6, h7, h8, h9⟩ := h.ex
    have hm : mget D.begin.2.now (newP p) = some k := by rw [b2]; show mget D.now _ = _; rw [h8]; exact mget_two
    have hl : D.begin.2.look (newP p) = 0 := by unfold Dk.look; rw [if_pos n2, hm]; rfl
    rw [sync_go b1, hl, hm, b2]
    simp only [if_true]
    have hf : fget D.fs ((some k).getD 0) = ⟨e, y, w⟩ := h5
    refine .inr ⟨trivial, hd, ⟨⟨h.cap, h.most, h.cl, h.el, i, k, e, [], ?_, ?_, h3, ?_, ?_, .inr ⟨rfl, rfl⟩, h.el, h8, h9⟩, k, ?_, ?_⟩, rfl⟩
    · show i < (D.fs.set _ _).length; rw [List.length_set]; exact h1
    · show k < (D.fs.set _ _).length; rw [List.length_set]; exact h2
    · show fget (D.fs.set k _) i = _; rw [fget_set, if_neg (fun q => h3 q.1.symm)]; exact h4
    · show fget (D.fs.set k _) k = _; rw [fget_set, if_pos ⟨rfl, h2⟩]; show Fdt.mk (fget D.fs k).now (fget D.fs k).now [] = _; rw [h5]
    · show mget D.now _ = _; rw [h8]; exact mget_two
    · show fget (D.fs.set k _) k = _; rw [fget_set, if_pos ⟨rfl, h2⟩]; show Fdt.mk (fget D.fs k).now (fget D.fs k).now [] = _; rw [h5]
theorem A2.rename (h : A2 p c e D) (hd : D.dead = false) (n1 : nameB p = true) (n2 : nameB (newP p) = true) :
    ((D.rename (newP p) p).1 = 11 ∧ (D.rename (newP p) p).2.dead = true ∧ A1 p c e (D.rename (newP p) p).2 ∧ D.left = 1) ∨ ((D.rename (newP p) p).1 = 0 ∧ (D.rename (newP p) p).2.dead = false ∧ A3 p c e (D.rename (newP p) p).2 ∧ (D.rename (newP p) p).2.left = D.left - 1) := by
  obtain ⟨h, k', hk1, hk2⟩ := h
  rcases begin_cases hd with ⟨b1, b2, b3⟩ | ⟨b1, b2, b3⟩
  · rw [ren_dead b1, b2]
    exact .inl ⟨rfl, rfl, h.of rfl rfl rfl rfl rfl rfl, b3⟩
  · obtain ⟨i, k, y, w, h1, h2, h3, h4, h5, h6, h7, h8, h9⟩ := h.ex
    have hkk : k' = k := by rw [h8, mget_two] at hk1; exact (Option.some.inj hk1).symm
    rw [hkk] at hk2
    have hm : mget D.begin.2.now (newP p) = some k := by rw [b2]; show mget D.now _ = _; rw [h8]; exact mget_two
    have hl : D.begin.2.renE (newP p) p = 0 := by rw [renE_l n2 n1 (dirP_new n1 n2)]; unfold Dk.look; rw [if_pos n2, hm]; rfl
    rw [ren_go b1, hl, if_pos ⟨rfl, new_ne p⟩, hm, b2]
    refine .inr ⟨rfl, hd, ⟨h.cap, h.most, h.cl, h.el, i, k, h1, h2, h3, h4, hk2, ?_, ?_⟩, rfl⟩
    · show Chg.ap ⟨newP p, p, some k⟩ D.now = [(p, k)]; rw [h8]; exact ap_ren
    · show (D.stays = _ ∧ D.log ++ _ = _) ∨ (D.stays = _ ∧ D.log ++ _ = _)
      rcases h9 with ⟨q1, q2⟩ | ⟨q1, q2⟩
      · exact .inl ⟨q1, by rw [q2]; rfl⟩
      · exact .inr ⟨q1, by rw [q2]; rfl⟩
theorem A3.syncDir (h : A3 p c e D) (hd : D.dead = false) (n1 : nameB p = true) (n2 : nameB (newP p) = true) (hde : dirE (dirP p) = 0) :
    ((D.syncDir (dirP p)).1 = 11 ∧ (D.syncDir (dirP p)).2.dead = true ∧ A3 p c e (D.syncDir (dirP p)).2 ∧ D.left = 1) ∨ ((D.syncDir (dirP p)).1 = 0 ∧ (D.syncDir (dirP p)).2.dead = false ∧ Fl p e (D.syncDir (dirP p)).2 ∧ (D.syncDir (dirP p)).2.left = D.left - 1) := by
  rcases begin_cases hd with ⟨b1, b2, b3⟩ | ⟨b1, b2, b3⟩
  · rw [sd_dead b1, b2]
    exact .inl ⟨rfl, rfl, h.of rfl rfl rfl rfl rfl rfl, b3⟩
  · obtain ⟨i, k, h1, h2, h3, h4, h5, h8, h9⟩ := h.ex
    rw [sd_go b1, hde, b2]
    simp only [if_true]
    have hdn := dirP_new n1 n2
    have hst : merge D.now D.stays (dirP p) = [(p, k)] := by
      unfold merge; rw [h8]
      rcases h9 with ⟨q1, _⟩ | ⟨q1, _⟩
      · rw [q1]; simp [nput]
      · rw [q1]; simp [nput, hdn]
    have hlg : D.log.filter (fun c => !decide (c.dir = dirP p)) = [] := by
      rcases h9 with ⟨_, q1⟩ | ⟨_, q1⟩
      · rw [q1]; simp [dir_add n1 n2, dir_ren n1 n2]
      · rw [q1]; simp [dir_ren n1 n2]
    refine .inr ⟨trivial, hd, ⟨h.cap, h.most, hlg, by show merge D.now D.stays (dirP p) = D.now; rw [hst, h8], h.el, k, h2, h5, .inl h8⟩, rfl⟩
theorem fresh_fl (h : Fl p c D) (hd : D.dead = false) (n1 : nameB p = true) (n2 : nameB (newP p) = true) (hde : dirE (dirP p) = 0) (he : (encW l).length ≤ 200000) :
    ((freshD D p l).1 = 0 ∧ Fl p (encW l) (freshD D p l).2 ∧ (freshD D p l).2.dead = false ∧ (D.left = 0 → (freshD D p l).2.left = 0)) ∨ ((freshD D p l).1 = 11 ∧ (freshD D p l).2.dead = true ∧ D.left ≠ 0 ∧ ∀ picks, Fl p c ((freshD D p l).2.crash picks) ∨ Fl p (encW l) ((freshD D p l).2.crash picks)) := by
  unfold freshD frS
  rcases h.lay1 hd n2 he with ⟨a1, a2, a3, a4⟩ | ⟨a1, a2, a3, a4⟩
  · rw [runD_c1 (by rw [a1]; decide)]
    exact .inr ⟨a1, a2, by omega, fun picks => .inl (a3.crash picks).1⟩
  rw [runD_c0 a1]
  rcases a3.sync a2 n2 with ⟨s1, s2, s3, s4⟩ | ⟨s1, s2, s3, s4⟩
  · rw [runD_c1 (by rw [s1]; decide)]
    exact .inr ⟨s1, s2, by omega, fun picks => .inl (s3.crash n1 n2 picks)⟩
  rw [runD_c0 s1]
  rcases s3.rename s2 n1 n2 with ⟨r1, r2, r3, r4⟩ | ⟨r1, r2, r3, r4⟩
  · rw [runD_c1 (by rw [r1]; decide)]
    exact .inr ⟨r1, r2, by omega, fun picks => .inl (r3.crash n1 n2 picks)⟩
  rw [runD_c0 r1]
  rcases r3.syncDir r2 n1 n2 hde with ⟨t1, t2, t3, t4⟩ | ⟨t1, t2, t3, t4⟩
  · rw [runD_c1 (by rw [t1]; decide)]
    exact .inr ⟨t1, t2, by omega, fun picks => t3.crash n1 n2 picks⟩
  rw [runD_c0 t1, runD_nil]
  exact .inl ⟨rfl, t3, t2, fun h0 => by rw [t4, r4, s4, a4]; omega⟩
/-! ### the steps of an append -/
structure Q1 (p : Pth) (c d : List UInt8) (D : Dk) : Prop where
  cap : 1048576 ≤ D.cap
  most : 1048576 ≤ D.most
  log : D.log = []
  st : D.stays = D.now
  cl : c.length + d.length ≤ 200000
  ex : ∃ i, i < D.fs.length ∧ fget D.fs i = ⟨c ++ d, c, [⟨true, d⟩]⟩ ∧ (D.now = [(p, i)] ∨ ∃ k x, k < D.fs.length ∧ k ≠ i ∧ fget D.fs k = ⟨x, x, []⟩ ∧ x.length ≤ 200000 ∧ D.now = [(p, i), (newP p, k)])
theorem Q1.of {d : List UInt8} {D2 : Dk} (h : Q1 p c d D) (h1 : D2.cap = D.cap) (h2 : D2.most = D.most) (h3 : D2.log = D.log) (h4 : D2.stays = D.stays) (h5 : D2.now = D.now) (h6 : D2.fs = D.fs) : Q1 p c d D2 :=
  ⟨by rw [h1]; exact h.cap, by rw [h2]; exact h.most, by rw [h3]; exact h.log, by rw [h4, h5]; exact h.st, h.cl, by rw [h6, h5]; exact h.ex⟩
theorem Fl.layA {d : List UInt8} (h : Fl p c D) (hd : D.dead = false) (n1 : nameB p = true) (he : c.length + d.length ≤ 200000) :
    ((D.lay p ⟨true, d⟩).1 = 11 ∧ (D.lay p ⟨true, d⟩).2.dead = true ∧ Fl p c (D.lay p ⟨true, d⟩).2 ∧ D.left = 1) ∨ ((D.lay p ⟨true, d⟩).1 = 0 ∧ (D.lay p ⟨true, d⟩).2.dead = false ∧ Q1 p c d (D.lay p ⟨true, d⟩).2 ∧ (D.lay p ⟨true, d⟩).2.left = D.left - 1) := by
  rcases begin_cases hd with ⟨b1, b2, b3⟩ | ⟨b1, b2, b3⟩
  · rw [lay_dead b1, b2]
    exact .inl ⟨rfl, rfl, h.of rfl rfl rfl rfl rfl rfl, b3⟩
  · rw [lay_go b1, b2]
    obtain ⟨D1, hD1⟩ : ∃ D1 : Dk, D1 = { D with left := D.left - 1, ops := D.ops + 1 } := ⟨_, rfl⟩
    rw [← hD1]
    have h1 : Fl p c D1 := by rw [hD1]; exact h.of rfl rfl rfl rfl rfl rfl
    have hdd : D1.dead = false := by rw [hD1]; exact hd
    have hll : D1.left = D.left - 1 := by rw [hD1]
    have ho : ((⟨true, d⟩ : Wr).on c d.length) = c ++ d := on_t _ _
    have hu := h1.used
    have hE : D1.layE p ⟨true, d⟩ = 0 := layE_0 n1 (by rw [h1.was]; simp only [ho, List.length_append]; have := h1.most; omega) (by rw [h1.was]; simp only [ho, List.length_append]; have := h1.cap; have := h1.cl; omega)
    rw [hE]; simp only [if_true]
    refine .inr ⟨trivial, ?_⟩
    obtain ⟨i, e1, e2, e3⟩ := h1.ex
    have hm : mget D1.now p = some i := by
      rcases e3 with e3 | ⟨k, x, _, _, _, _, e3⟩
      · rw [e3]; exact mget_fst
      · rw [e3]; exact mget_fst
    have hw : D1.write p ⟨true, d⟩ = D1.putF i ⟨c ++ d, c, [⟨true, d⟩]⟩ := by
      unfold Dk.write Dk.make; rw [hm]; simp only; rw [e2, ho]; rfl
    rw [hw]
    refine ⟨hdd, ⟨h1.cap, h1.most, h1.log, h1.st, he, i, ?_, ?_, ?_⟩, hll⟩
    · show i < (D1.fs.set _ _).length; rw [List.length_set]; exact e1
    · show fget (D1.fs.set _ _) i = _; rw [fget_set, if_pos ⟨rfl, e1⟩]
    · rcases e3 with e3 | ⟨k, x, k1, k2, k3, k4, e3⟩
      · exact .inl e3
      · exact .inr ⟨k, x, by show k < (D1.fs.set _ _).length; rw [List.length_set]; exact k1, k2, by show fget (D1.fs.set _ _) k = _; rw [fget_set, if_neg (fun h => k2 h.1)]; exact k3, k4, e3⟩
theorem Q1.sync {d : List UInt8} (h : Q1 p c d D) (hd : D.dead = false) (n1 : nameB p = true) :
    ((D.sync p).1 = 11 ∧ (D.sync p).2.dead = true ∧ Q1 p c d (D.sync p).2 ∧ D.left = 1) ∨ ((D.sync p).1 = 0 ∧ (D.sync p).2.dead = false ∧ Fl p (c ++ d) (D.sync p).2 ∧ (D.sync p).2.left = D.left - 1) := by
  rcases begin_cases hd with ⟨b1, b2, b3⟩ | ⟨b1, b2, b3⟩
  · rw [sync_dead b1, b2]
    exact .inl ⟨rfl, rfl, h.of rfl rfl rfl rfl rfl rfl, b3⟩
  · obtain ⟨i, e1, e2, e3⟩ := h.ex
    have hm0 : mget D.now p = some i := by
      rcases e3 with e3 | ⟨k, x, _, _, _, _, e3⟩
      · rw [e3]; exact mget_fst
      · rw [e3]; exact mget_fst
    have hm : mget D.begin.2.now p = some i := by rw [b2]; exact hm0
    have hl : D.begin.2.look p = 0 := by unfold Dk.look; rw [if_pos n1, hm]; rfl
    rw [sync_go b1, hl, hm, b2]
    simp only [if_true]
    refine .inr ⟨trivial, hd, ⟨h.cap, h.most, h.log, h.st, by rw [List.length_append]; exact h.cl, i, ?_, ?_, ?_⟩, rfl⟩
    · show i < (D.fs.set _ _).length; rw [List.length_set]; exact e1
    · show fget (D.fs.set i _) i = _; rw [fget_set, if_pos ⟨rfl, e1⟩]; show Fdt.mk (fget D.fs i).now (fget D.fs i).now [] = _; rw [e2]
    · rcases e3 with e3 | ⟨k, x, k1, k2, k3, k4, e3⟩
      · exact .inl e3
      · exact .inr ⟨k, x, by show k < (D.fs.set _ _).length; rw [List.length_set]; exact k1, k2, by show fget (D.fs.set i _) k = _; rw [fget_set, if_neg (fun h => k2 h.1)]; exact k3, k4, e3⟩
theorem Q1.crash {d : List UInt8} (h : Q1 p c d D) (picks : List Int) : ∃ a z, a + z ≤ d.length ∧ Fl p (c ++ d.take a ++ List.replicate z 0) (D.crash picks) := by
  have hN : D.crashN picks = (D.now, 0) := by unfold Dk.crashN Dk.dirty; rw [h.log, h.st]; rfl
  obtain ⟨i, h1, h2, h3⟩ := h.ex
  obtain ⟨q, g1, g2, g3, g4⟩ := crashF_do (picks := picks) (s := (D.fs, 0)) (x := (p, i)) h1
  simp only at g1 g2 g3 g4
  have hA : D.crashA picks = crashF picks (D.fs, 0) (p, i) := by
    unfold Dk.crashA; rw [hN]
    rcases h3 with h3 | ⟨k, x, k1, k2, k3, k4, h3⟩
    · rw [h3]; rfl
    · rw [h3]; simp only [List.foldl_cons, List.foldl_nil]; rw [crashF_skip (x := (newP p, k)) (by simp only; rw [g2 k k2, k3])]
  obtain ⟨a, z, haz, hw⟩ := way_form d c q
  have g5 := g4 (by rw [h2]; simp)
  rw [h2] at g5
  simp only [hw] at g5
  refine ⟨a, z, haz, h.cap, h.most, rfl, rfl, ?_, i, ?_, ?_, ?_⟩
  · simp only [List.length_append, List.length_take, List.length_replicate]; have := h.cl; omega
  · show i < (D.crashA picks).1.length; rw [hA, g1]; exact h1
  · show fget (D.crashA picks).1 i = _; rw [hA]; exact g5
  · show (D.crashN picks).1 = _ ∨ ∃ k x, k < (D.crashA picks).1.length ∧ k ≠ i ∧ fget (D.crashA picks).1 k = _ ∧ _ ∧ (D.crashN picks).1 = _
    rw [hA, hN]
    rcases h3 with h3 | ⟨k, x, k1, k2, k3, k4, h3⟩
    · exact .inl h3
    · exact .inr ⟨k, x, by rw [g1]; exact k1, k2, by rw [g2 k k2]; exact k3, k4, h3⟩
/-- bytes are these records, whatever stands behind them -/
def Pj (l : List Rec) (c : List UInt8) : Prop := ∃ t, c = encW l ++ t ∧ oneW l.length t = none
theorem Pj.enc (l : List Rec) : Pj l (encW l) := ⟨[], by rw [List.append_nil], by simp [oneW]⟩
theorem Pj.par (h : Pj l c) (hl : ∀ r ∈ l, r.length ≤ 1048576) : parE c = 0 ∧ parL c = l := by
  obtain ⟨t, rfl, ht⟩ := h
  have := parL_enc l t hl
  rw [parP_stop ht, List.append_nil] at this
  exact ⟨parE_enc l t, this⟩
theorem rec_fl (h : Fl p (encW l) D) (hd : D.dead = false) (n1 : nameB p = true) (he : (encW l).length + 13 + r.length ≤ 200000) (hr : r.length ≤ 1048576) :
    ((runD (apS p l.length r) D).1 = 0 ∧ Fl p (encW (l ++ [r])) (runD (apS p l.length r) D).2 ∧ (runD (apS p l.length r) D).2.dead = false ∧ (D.left = 0 → (runD (apS p l.length r) D).2.left = 0)) ∨ ((runD (apS p l.length r) D).1 = 11 ∧ (runD (apS p l.length r) D).2.dead = true ∧ D.left ≠ 0 ∧ ∀ picks, ∃ c, (Pj l c ∨ Pj (l ++ [r]) c) ∧ Fl p c ((runD (apS p l.length r) D).2.crash picks)) := by
  have hl := layW_len l.length r
  unfold apS
  rcases h.layA hd n1 (d := layW l.length r) (by omega) with ⟨a1, a2, a3, a4⟩ | ⟨a1, a2, a3, a4⟩
  · rw [runD_c1 (by rw [a1]; decide)]
    exact .inr ⟨a1, a2, by omega, fun picks => ⟨_, .inl (Pj.enc l), (a3.crash picks).1⟩⟩
  rw [runD_c0 a1]
  rcases a3.sync a2 n1 with ⟨s1, s2, s3, s4⟩ | ⟨s1, s2, s3, s4⟩
  · rw [runD_c1 (by rw [s1]; decide)]
    refine .inr ⟨s1, s2, by omega, fun picks => ?_⟩
    obtain ⟨a, z, haz, hf⟩ := s3.crash picks
    refine ⟨_, .inl ⟨(layW l.length r).take a ++ List.replicate z 0, by rw [List.append_assoc], ?_⟩, hf⟩
    by_cases ha : a ≤ (layW l.length r).length
    · exact torn_none _ _ _ _ (by omega) hr
    · omega
  rw [runD_c0 s1]
  rcases s3.layA s2 n1 (d := [67]) (by rw [List.length_append, List.length_singleton]; omega) with ⟨m1, m2, m3, m4⟩ | ⟨m1, m2, m3, m4⟩
  · rw [runD_c1 (by rw [m1]; decide)]
    exact .inr ⟨m1, m2, by omega, fun picks => ⟨_, .inl ⟨layW l.length r, rfl, lay_none _ _ hr⟩, (m3.crash picks).1⟩⟩
  rw [runD_c0 m1]
  rcases m3.sync m2 n1 with ⟨y1, y2, y3, y4⟩ | ⟨y1, y2, y3, y4⟩
  · rw [runD_c1 (by rw [y1]; decide)]
    refine .inr ⟨y1, y2, by omega, fun picks => ?_⟩
    obtain ⟨a, z, haz, hf⟩ := y3.crash picks
    simp only [List.length_singleton] at haz
    refine ⟨_, ?_, hf⟩
    rcases (show (a = 0 ∧ z = 0) ∨ (a = 0 ∧ z = 1) ∨ (a = 1 ∧ z = 0) by omega) with ⟨rfl, rfl⟩ | ⟨rfl, rfl⟩ | ⟨rfl, rfl⟩
    · exact .inl ⟨layW l.length r, by simp, lay_none _ _ hr⟩
    · exact .inl ⟨layW l.length r ++ [0], by simp, lay0_none _ _ hr⟩
    · refine .inr ⟨[], ?_, by simp [oneW]⟩
      rw [encW_snoc, recW]; simp
  rw [runD_c0 y1, runD_nil]
  refine .inl ⟨rfl, ?_, y2, fun h0 => by rw [y4, m4, s4, a4]; omega⟩
  show Fl p _ _
  rw [encW_snoc, recW, ← List.append_assoc]; exact y3
theorem open_fl (h : Fl p c D) (hp : Pj l c) (hl : ∀ r ∈ l, r.length ≤ 1048576) (hd : D.dead = false) (n1 : nameB p = true) (n2 : nameB (newP p) = true) (hde : dirE (dirP p) = 0) :
    ((openD D p).1 = 0 ∧ (openD D p).2.1 = l ∧ (∃ c2, Pj l c2 ∧ Fl p c2 (openD D p).2.2) ∧ (openD D p).2.2.dead = false ∧ (D.left = 0 → (openD D p).2.2.left = 0)) ∨ ((openD D p).1 = 11 ∧ (openD D p).2.2.dead = true ∧ D.left ≠ 0 ∧ ∀ picks, ∃ c2, Pj l c2 ∧ Fl p c2 ((openD D p).2.2.crash picks)) := by
  obtain ⟨p1, p2⟩ := hp.par hl
  obtain ⟨i, g1, g2, g3⟩ := h.get
  obtain ⟨r1, r2⟩ := read_of hd n1 g1 (x := c) (by rw [g3])
  rw [← r2] at p1 p2
  have hel : (encW l).length ≤ 200000 := by
    obtain ⟨t, e, _⟩ := hp
    have := h.cl; rw [e, List.length_append] at this; omega
  by_cases hs : parS (D.readL p) < (D.readL p).length
  · rw [open_e n1 n2 r1 p1 hs, p2]
    rcases fresh_fl h hd n1 n2 hde hel with ⟨f1, f2, f3, f4⟩ | ⟨f1, f2, f3, f4⟩
    · exact .inl ⟨f1, by simp only; rw [if_pos f1], ⟨_, Pj.enc l, f2⟩, f3, f4⟩
    · refine .inr ⟨f1, f2, f3, fun picks => ?_⟩
      rcases f4 picks with q | q
      · exact ⟨c, hp, q⟩
      · exact ⟨_, Pj.enc l, q⟩
  · rw [open_f n1 n2 r1 p1 hs, p2]
    exact .inl ⟨rfl, rfl, ⟨c, hp, h⟩, hd, fun h0 => h0⟩
/-- a journal that was just made -/
theorem start_fl {cap most : Nat} (n1 : nameB p = true) (n2 : nameB (newP p) = true) (hde : dirE (dirP p) = 0) (hc : 1048576 ≤ cap) (hm : 1048576 ≤ most) : (openD (Dk.empty cap most) p).1 = 0 ∧ (openD (Dk.empty cap most) p).2.1 = [] ∧ Fl p (encW []) (openD (Dk.empty cap most) p).2.2 ∧ (openD (Dk.empty cap most) p).2.2.dead = false ∧ (openD (Dk.empty cap most) p).2.2.left = 0 := by
  have hr : (Dk.empty cap most).readE p = 2 := by simp [Dk.readE, Dk.empty, Dk.look, n1, mget]
  rw [open_b n1 n2 hr]
  unfold freshD frS
  have e1 : (Dk.empty cap most).lay (newP p) ⟨false, encW []⟩ = (0, ⟨cap, most, [⟨encW [], [], [⟨false, encW []⟩]⟩], [(newP p, 0)], [], [⟨[], newP p, some 0⟩], 1, 0, false⟩) := by
    unfold Dk.empty
    rw [lay_a n2 (by simp only [on_f]; show 8 ≤ most; omega) (by simp only [on_f]; simp [usedL, Dk.wasL, mget]; show 8 ≤ cap; omega)]
    rw [write_two (k := 0) rfl]
    simp [nput, on_f]
  rw [runD_c0 (by rw [e1]), e1]
  have hm2 : mget [(newP p, 0)] (newP p) = some 0 := by simp [mget]
  have e2 : Dk.sync ⟨cap, most, [⟨encW [], [], [⟨false, encW []⟩]⟩], [(newP p, 0)], [], [⟨[], newP p, some 0⟩], 1, 0, false⟩ (newP p) = (0, ⟨cap, most, [⟨encW [], encW [], []⟩], [(newP p, 0)], [], [⟨[], newP p, some 0⟩], 2, 0, false⟩) := by
    simp [Dk.sync, Dk.begin, Dk.look, n2, mget, Dk.syncF, Dk.putF, fget]
  rw [runD_c0 (by rw [e2]), e2]
  have e3 : Dk.rename ⟨cap, most, [⟨encW [], encW [], []⟩], [(newP p, 0)], [], [⟨[], newP p, some 0⟩], 2, 0, false⟩ (newP p) p = (0, ⟨cap, most, [⟨encW [], encW [], []⟩], [(p, 0)], [], [⟨[], newP p, some 0⟩, ⟨newP p, p, some 0⟩], 3, 0, false⟩) := by
    simp [Dk.rename, Dk.begin, Dk.renE, n1, n2, dirP_new n1 n2, Dk.look, mget, new_ne, Dk.change, Chg.ap, new_nn, mdel, nput]
  rw [runD_c0 (by rw [e3]), e3]
  have e4 : Dk.syncDir ⟨cap, most, [⟨encW [], encW [], []⟩], [(p, 0)], [], [⟨[], newP p, some 0⟩, ⟨newP p, p, some 0⟩], 3, 0, false⟩ (dirP p) = (0, ⟨cap, most, [⟨encW [], encW [], []⟩], [(p, 0)], [(p, 0)], [], 4, 0, false⟩) := by
    simp [Dk.syncDir, Dk.begin, hde, Dk.stayD, merge, nput, dir_add n1 n2, dir_ren n1 n2]
  rw [runD_c0 (by rw [e4]), e4, runD_nil]
  exact ⟨rfl, rfl, ⟨hc, hm, rfl, rfl, by show 8 ≤ 200000; omega, 0, by simp, by simp [fget], .inl rfl⟩, rfl, rfl⟩
end

end Go.Proofs.YtdliddjkacbggaaGreatDoor.WalM
/-
  A journal: records that are appended, in whatever turns it is opened anew, are all there.
-/
namespace Go.Proofs.YtdliddjkacbggaaGreatDoor.WalN
open Go.Proofs.YtdliddjkacbggaaGreatDoor.E Go.RowKit Go.Proofs.YtdliddjkacbggaaGreatDoor.SimA Go.Proofs.YtdliddjkacbggaaGreatDoor.SimB Go.Proofs.YtdliddjkacbggaaGreatDoor.SimC Go.Proofs.YtdliddjkacbggaaGreatDoor.SimD Go.Proofs.YtdliddjkacbggaaGreatDoor.SimE Go.Proofs.YtdliddjkacbggaaGreatDoor.SimF Go.Proofs.YtdliddjkacbggaaGreatDoor.SimG Go.Proofs.YtdliddjkacbggaaGreatDoor.SimH Go.Proofs.YtdliddjkacbggaaGreatDoor.SimI Go.Proofs.YtdliddjkacbggaaGreatDoor.SimP Go.Proofs.YtdliddjkacbggaaGreatDoor.SimQ Go.Proofs.YtdliddjkacbggaaGreatDoor.SimR Go.Proofs.YtdliddjkacbggaaGreatDoor.SimS Go.Proofs.YtdliddjkacbggaaGreatDoor.SimU Go.Proofs.YtdliddjkacbggaaGreatDoor.SimY Go.Proofs.YtdliddjkacbggaaGreatDoor.SimYA Go.Proofs.YtdliddjkacbggaaGreatDoor.SimYE Go.Proofs.YtdliddjkacbggaaGreatDoor.WalA Go.Proofs.YtdliddjkacbggaaGreatDoor.WalB Go.Proofs.YtdliddjkacbggaaGreatDoor.WalC Go.Proofs.YtdliddjkacbggaaGreatDoor.WalD Go.Proofs.YtdliddjkacbggaaGreatDoor.WalE Go.Proofs.YtdliddjkacbggaaGreatDoor.WalF Go.Proofs.YtdliddjkacbggaaGreatDoor.WalG Go.Proofs.YtdliddjkacbggaaGreatDoor.WalH Go.Proofs.YtdliddjkacbggaaGreatDoor.WalI Go.Proofs.YtdliddjkacbggaaGreatDoor.WalJ Go.Proofs.YtdliddjkacbggaaGreatDoor.WalK Go.Proofs.YtdliddjkacbggaaGreatDoor.WalL Go.Proofs.YtdliddjkacbggaaGreatDoor.WalM
set_option maxRecDepth 20000
set_option linter.unusedVariables false
set_option linter.unusedSimpArgs false
set_option linter.unusedSectionVars false
set_option maxRecDepth 100000 in
theorem inf22 : Inf Tryz.prog 22 34 1 24 := ⟨Tryz.underlying22, _, _, rfl, rfl, rfl, rfl, rfl⟩
theorem bs_open2 {N M : Nat} {D : Dk} (h : Bs N D) (p : Pth) (hM : (D.readL p).length + 8 ≤ M) : Bs (N + 4 * (M + 28)) (openD D p).2.2 := by
  have h1 := (encN_parL_le (D.readL p)).2
  unfold openD
  split
  · exact h.mono (by omega)
  split
  · exact (bs_fresh h p []).mono (by simp [encW, W8, encN]; omega)
  split
  · exact h.mono (by omega)
  split
  · exact h.mono (by omega)
  split
  · exact (bs_fresh h p _).mono (by omega)
  · exact h.mono (by omega)
theorem readL_le (D : Dk) (p : Pth) : (D.readL p).length ≤ (D.wasL p).length := by unfold Dk.readL; split; exact Nat.le_refl _; simp
theorem fl_rdl {p : Pth} {c : List UInt8} {D : Dk} (h : Fl p c D) : (D.readL p).length ≤ c.length := by rw [← h.was]; exact readL_le D p
theorem app_fl {p : Pth} {l : List Rec} {r : Rec} {D : Dk} (h : Fl p (encW l) D) (hd : D.dead = false) (h0 : D.left = 0) (n1 : nameB p = true) (he : (encW l).length + 13 + r.length ≤ 200000) (hr : r.length ≤ 1048576) :
    (appD D p l.length false r).1 = 0 ∧ (appD D p l.length false r).2.1 = l.length + 1 ∧ (appD D p l.length false r).2.2.1 = false ∧ Fl p (encW (l ++ [r])) (appD D p l.length false r).2.2.2 ∧ (appD D p l.length false r).2.2.2.dead = false ∧ (appD D p l.length false r).2.2.2.left = 0 := by
  rw [app_go (pre_0 rfl)]
  rcases rec_fl h hd n1 he hr with ⟨a1, a2, a3, a4⟩ | ⟨_, _, a3, _⟩
  · rw [if_pos a1, if_pos a1]; exact ⟨a1, rfl, rfl, a2, a3, a4 h0⟩
  · exact absurd h0 a3
theorem open_fl0 {p : Pth} {c : List UInt8} {l : List Rec} {D : Dk} (h : Fl p c D) (hp : Pj l c) (hl : ∀ r ∈ l, r.length ≤ 1048576) (hd : D.dead = false) (h0 : D.left = 0) (n1 : nameB p = true) (n2 : nameB (newP p) = true) (hde : dirE (dirP p) = 0) :
    (openD D p).1 = 0 ∧ (openD D p).2.1 = l ∧ (∃ c2, Pj l c2 ∧ Fl p c2 (openD D p).2.2) ∧ (openD D p).2.2.dead = false ∧ (openD D p).2.2.left = 0 := by
  rcases open_fl h hp hl hd n1 n2 hde with ⟨a1, a2, a3, a4, a5⟩ | ⟨_, _, a3, _⟩
  · exact ⟨a1, a2, a3, a4, a5 h0⟩
  · exact absurd h0 a3
end Go.Proofs.YtdliddjkacbggaaGreatDoor.WalN
/-
  A journal: wherever appending, or making anew, is cut off, the records are those ahead of the call, or those behind it.
-/
namespace Go.Proofs.YtdliddjkacbggaaGreatDoor.WalO
open Go.Proofs.YtdliddjkacbggaaGreatDoor.E Go.RowKit Go.Proofs.YtdliddjkacbggaaGreatDoor.SimA Go.Proofs.YtdliddjkacbggaaGreatDoor.SimB Go.Proofs.YtdliddjkacbggaaGreatDoor.SimC Go.Proofs.YtdliddjkacbggaaGreatDoor.SimD Go.Proofs.YtdliddjkacbggaaGreatDoor.SimE Go.Proofs.YtdliddjkacbggaaGreatDoor.SimF Go.Proofs.YtdliddjkacbggaaGreatDoor.SimG Go.Proofs.YtdliddjkacbggaaGreatDoor.SimH Go.Proofs.YtdliddjkacbggaaGreatDoor.SimI Go.Proofs.YtdliddjkacbggaaGreatDoor.SimP Go.Proofs.YtdliddjkacbggaaGreatDoor.SimQ Go.Proofs.YtdliddjkacbggaaGreatDoor.SimR Go.Proofs.YtdliddjkacbggaaGreatDoor.SimS Go.Proofs.YtdliddjkacbggaaGreatDoor.SimU Go.Proofs.YtdliddjkacbggaaGreatDoor.SimY Go.Proofs.YtdliddjkacbggaaGreatDoor.SimYA Go.Proofs.YtdliddjkacbggaaGreatDoor.SimYE Go.Proofs.YtdliddjkacbggaaGreatDoor.WalA Go.Proofs.YtdliddjkacbggaaGreatDoor.WalB Go.Proofs.YtdliddjkacbggaaGreatDoor.WalC Go.Proofs.YtdliddjkacbggaaGreatDoor.WalD Go.Proofs.YtdliddjkacbggaaGreatDoor.WalE Go.Proofs.YtdliddjkacbggaaGreatDoor.WalF Go.Proofs.YtdliddjkacbggaaGreatDoor.WalG Go.Proofs.YtdliddjkacbggaaGreatDoor.WalH Go.Proofs.YtdliddjkacbggaaGreatDoor.WalI Go.Proofs.YtdliddjkacbggaaGreatDoor.WalJ Go.Proofs.YtdliddjkacbggaaGreatDoor.WalK Go.Proofs.YtdliddjkacbggaaGreatDoor.WalL Go.Proofs.YtdliddjkacbggaaGreatDoor.WalM Go.Proofs.YtdliddjkacbggaaGreatDoor.WalN
set_option maxRecDepth 20000
set_option linter.unusedVariables false
set_option linter.unusedSimpArgs false
set_option linter.unusedSectionVars false
set_option maxRecDepth 100000 in
theorem inf22 : Inf Tryz.prog 22 34 1 24 := ⟨Tryz.underlying22, _, _, rfl, rfl, rfl, rfl, rfl⟩

/-- whatever a crash leaves is one or the other -/
def Safe (p : Pth) (L W : List Rec) (D : Dk) : Prop := ∀ picks, ∃ c, (Pj L c ∨ Pj W c) ∧ Fl p c (D.crash picks)
theorem ckp_safe {p : Pth} {l e : List Rec} {D : Dk} (h : Fl p (encW l) D) (hd : D.dead = false) (n1 : nameB p = true) (n2 : nameB (newP p) = true) (hde : dirE (dirP p) = 0) (he : (encW e).length ≤ 200000) :
    Safe p l e (freshD D p e).2 ∧ ((freshD D p e).1 = 0 → Safe p e e (freshD D p e).2) := by
  rcases fresh_fl h hd n1 n2 hde he with ⟨a1, a2, a3, a4⟩ | ⟨a1, a2, a3, a4⟩
  · exact ⟨fun q => ⟨_, .inr (Pj.enc e), (a2.crash q).1⟩, fun _ q => ⟨_, .inr (Pj.enc e), (a2.crash q).1⟩⟩
  · refine ⟨fun q => ?_, fun h0 => by omega⟩
    rcases a4 q with x | x
    · exact ⟨_, .inl (Pj.enc l), x⟩
    · exact ⟨_, .inr (Pj.enc e), x⟩
theorem app_safe {p : Pth} {l : List Rec} {r : Rec} {D : Dk} (h : Fl p (encW l) D) (hd : D.dead = false) (n1 : nameB p = true) (he : (encW l).length + 13 + r.length ≤ 200000) (hr : r.length ≤ 1048576) :
    Safe p l (l ++ [r]) (appD D p l.length false r).2.2.2 ∧ ((appD D p l.length false r).1 = 0 → Safe p (l ++ [r]) (l ++ [r]) (appD D p l.length false r).2.2.2) := by
  rw [app_go (pre_0 rfl)]
  rcases rec_fl h hd n1 he hr with ⟨a1, a2, a3, a4⟩ | ⟨a1, a2, a3, a4⟩
  · exact ⟨fun q => ⟨_, .inr (Pj.enc _), (a2.crash q).1⟩, fun _ q => ⟨_, .inr (Pj.enc _), (a2.crash q).1⟩⟩
  · exact ⟨a4, fun h0 => by have h9 : (runD (apS p l.length r) D).1 = 0 := h0; omega⟩
theorem same_safe {p : Pth} {l : List Rec} {D : Dk} (h : Fl p (encW l) D) : Safe p l l D := fun q => ⟨_, .inl (Pj.enc l), (h.crash q).1⟩
theorem Safe.get {p : Pth} {L W : List Rec} {D : Dk} (h : Safe p L W D) (q : List Int) : ∃ X c, (X = L ∨ X = W) ∧ Pj X c ∧ Fl p c (D.crash q) := by
  obtain ⟨c, h1 | h1, h2⟩ := h q
  · exact ⟨L, c, .inl rfl, h1, h2⟩
  · exact ⟨W, c, .inr rfl, h1, h2⟩
/-- what opening comes to: done, or dead and safe still -/
theorem open_fl2 {p : Pth} {c : List UInt8} {l : List Rec} {D : Dk} (h : Fl p c D) (hp : Pj l c) (hl : ∀ r ∈ l, r.length ≤ 1048576) (hd : D.dead = false) (n1 : nameB p = true) (n2 : nameB (newP p) = true) (hde : dirE (dirP p) = 0) :
    ((openD D p).1 ≠ 0 → (openD D p).1 = 11 ∧ ∀ q, ∃ c2, Pj l c2 ∧ Fl p c2 ((openD D p).2.2.crash q)) ∧ ((openD D p).1 = 0 → (openD D p).2.1 = l ∧ (openD D p).2.2.dead = false ∧ ∃ c2, Pj l c2 ∧ Fl p c2 (openD D p).2.2) := by
  rcases open_fl h hp hl hd n1 n2 hde with ⟨a1, a2, a3, a4, a5⟩ | ⟨a1, a2, a3, a4⟩
  · exact ⟨fun h => absurd a1 h, fun _ => ⟨a2, a4, a3⟩⟩
  · exact ⟨fun _ => ⟨a1, a4⟩, fun h => by omega⟩
theorem fl_rd {p : Pth} {c : List UInt8} {D : Dk} (h : Fl p c D) : (D.readL p).length + 8 ≤ 200008 := by have := fl_rdl h; have := h.cl; omega

set_option maxHeartbeats 4000000 in
theorem walCrashes_ct (mx_ : Int) (s0 s1 s4 : SV) (l l2 : List (SV × Rec)) (chk : Bool) (st : Int) (picks : List Int) (ag : Int) (w0 : World) (H0 : Heap)
    (mx : MX mx_ H0) (bf_mx : BF (fun b => b = 0) H0.size) (hl : RdT H0 fP 1 s0.v l) (hx : ∀ x ∈ l, RdT H0 fB 1 x.1.v x.2) (hl2 : RdT H0 fP 1 s1.v l2) (hx2 : ∀ x ∈ l2, RdT H0 fB 1 x.1.v x.2) (hpk : RdT H0 fI 1 s4.v picks) (hpi : ∀ x ∈ picks, -9223372036854775808 ≤ x ∧ x ≤ 9223372036854775807) (hst_ : -9223372036854775808 ≤ st ∧ st ≤ 9223372036854775807) (hag : -9223372036854775808 ≤ ag ∧ ag ≤ 9223372036854775807) :
    Ct Tryz.prog w0 4 #[s0.v, s1.v, .bool chk, .int .i64 st, s4.v, .int .i64 ag] H0 (fun r H2 => r = .bool true ∧ Nw H0 H2) := by
  refine Ct.enter (args := [s0.v, s1.v, .bool chk, .int .i64 st, s4.v, .int .i64 ag]) Tryz.func4 rfl rfl rfl ?_
  intro Q0 hret
  have hm0 : Nw H0 H0 := Mo.refl _ _
  replace hl := hl.bnd
  have bf_hl := hl.bf
  replace hx := fun x hx0 => (hx x hx0).bnd
  have bf_hx : BF (fun b => True ∧ b < H0.size) H0.size := fun b h => h.2
  replace hl2 := hl2.bnd
  have bf_hl2 := hl2.bf
  replace hx2 := fun x hx0 => (hx2 x hx0).bnd
  have bf_hx2 : BF (fun b => True ∧ b < H0.size) H0.size := fun b h => h.2
  replace hpk := hpk.bnd
  have bf_hpk := hpk.bf
  refine CW.seq (fun K1 hK1 hE1 => ?_)
  refine CW.region ?_
  refine LR.v (Y.assign rfl rfl) (Wd.u rfl) rfl rfl ?_
  refine LR.nil ?_
  refine hK1 _ _ ?_
  refine CW.seq (fun K2 hK2 hE2 => ?_)
  refine CW.seq (fun K3 hK3 hE3 => ?_)
  refine CW.region ?_
  -- call selvage/selvagelaw3.known
  refine LR.call rfl Tryz.call6 rfl (Wd.u rfl) rfl rfl (known3_ct mx_ w0 _ mx bf_mx) (fun v24 H24 r24 => ?_)
  obtain ⟨rfl, hs24⟩ := r24
  replace mx := mx.nw hs24
  replace hl := hl.nw hs24
  replace hx := fun x hx0 => (hx x hx0).nw hs24
  replace hl2 := hl2.nw hs24
  replace hx2 := fun x hx0 => (hx2 x hx0).nw hs24
  replace hpk := hpk.nw hs24
  replace hm0 := hm0.tr hs24
  have hz1 := hs24.size
  refine LR.v (Y.not rfl rfl) (Wd.u rfl) rfl rfl ?_
  refine LR.nil ?_
  refine hK3 _ _ ?_
  refine CW.cond_f rfl ?_
  refine CW.skip ?_
  refine hK2 _ _ ?_
  refine CW.seq (fun K4 hK4 hE4 => ?_)
  refine CW.region ?_
  refine LR.v (Y.move rfl rfl) (Wd.u rfl) rfl rfl ?_
  -- call selvage/selvagelaw3.few
  refine LR.call rfl Tryz.call7 rfl (Wd.u rfl) rfl rfl (few_ct s0 l w0 _ hl.any (fun x h => (hx x h).any)) (fun v27 H27 r27 => ?_)
  obtain ⟨t27, m, rfl, hrm, hm, hxm, hs27⟩ := r27
  replace mx := mx.nw hs27
  replace hl := hl.nw hs27
  replace hx := fun x hx0 => (hx x hx0).nw hs27
  replace hl2 := hl2.nw hs27
  replace hx2 := fun x hx0 => (hx2 x hx0).nw hs27
  replace hpk := hpk.nw hs27
  replace hm0 := hm0.tr hs27
  have hz2 := hs27.size
  replace hm := hm.bnd
  have bf_hm := hm.bf
  replace hxm := fun x hx_ => (hxm x hx_).bnd
  have bf_hxm : BF (fun b => H24.size ≤ b ∧ b < H27.size) H27.size := fun b h => h.2
  have hfe := few_enc (recs l)
  have hfm : ∀ x ∈ m, x.2.length < 3000 := fun x h => few_mem (l := recs l) _ (by rw [← hrm]; exact List.mem_map_of_mem h)
  rw [← hrm] at hfe
  have hml : m.length ≤ 20 := by have h1 := few_len (recs l); rw [← hrm] at h1; simpa [recs] using h1
  have hmm : ∀ r ∈ recs m, r.length ≤ 1048576 := fun r h => by rw [hrm] at h; have := few_mem r h; omega
  have hmk : (recs m).length = m.length := by simp [recs]
  refine LR.v (Y.move rfl rfl) (Wd.u rfl) rfl rfl ?_
  -- call selvage/selvagelaw3.few
  refine LR.call rfl Tryz.call7 rfl (Wd.u rfl) rfl rfl (few_ct s1 l2 w0 _ hl2.any (fun x h => (hx2 x h).any)) (fun v29 H29 r29 => ?_)
  obtain ⟨t29, m2, rfl, hrm2, hm2, hxm2, hs29⟩ := r29
  replace mx := mx.nw hs29
  replace hl := hl.nw hs29
  replace hx := fun x hx0 => (hx x hx0).nw hs29
  replace hl2 := hl2.nw hs29
  replace hx2 := fun x hx0 => (hx2 x hx0).nw hs29
  replace hpk := hpk.nw hs29
  replace hm := hm.nw hs29
  replace hxm := fun x hx_ => (hxm x hx_).nw hs29
  replace hm0 := hm0.tr hs29
  have hz3 := hs29.size
  replace hm2 := hm2.bnd
  have bf_hm2 := hm2.bf
  replace hxm2 := fun x hx_ => (hxm2 x hx_).bnd
  have bf_hxm2 : BF (fun b => H27.size ≤ b ∧ b < H29.size) H29.size := fun b h => h.2
  have hfe2 := few_enc (recs l2)
  have hfm2 : ∀ x ∈ m2, x.2.length < 3000 := fun x h => few_mem (l := recs l2) _ (by rw [← hrm2]; exact List.mem_map_of_mem h)
  rw [← hrm2] at hfe2
  have hml2 : m2.length ≤ 20 := by have h1 := few_len (recs l2); rw [← hrm2] at h1; simpa [recs] using h1
  have hmm2 : ∀ r ∈ recs m2, r.length ≤ 1048576 := fun r h => by rw [hrm2] at h; have := few_mem r h; omega
  have hmk2 : (recs m2).length = m2.length := by simp [recs]
  refine LR.v (Y.assign rfl rfl) (Wd.u rfl) rfl rfl ?_
  refine LR.v (Y.assign rfl rfl) (Wd.u rfl) rfl rfl ?_
  refine LR.nil ?_
  refine hK4 _ _ ?_
  refine CW.seq (fun K5 hK5 hE5 => ?_)
  refine CW.region ?_
  -- call selvage/simfs.New
  refine LR.call rfl Tryz.call8 rfl (Wd.u rfl) rfl rfl (new_ct 1048576 1048576 w0 _ (by decide) (by decide)) (fun v31 H31 r31 => ?_)
  obtain ⟨Q31, g31, b31, rfl, hf, hkn31, hs31⟩ := r31
  have df1 := DFL.appK (DFL.nil) (bf_mx.mono hm0.size) hkn31
  have df2 := DFL.appK (DFL.nil) (bf_hl.mono hm0.size) hkn31
  have df3 := DFL.appK (DFL.nil) (bf_hx.mono hm0.size) hkn31
  have df4 := DFL.appK (DFL.nil) (bf_hl2.mono hm0.size) hkn31
  have df5 := DFL.appK (DFL.nil) (bf_hx2.mono hm0.size) hkn31
  have df6 := DFL.appK (DFL.nil) (bf_hpk.mono hm0.size) hkn31
  have df7 := DFL.appK (DFL.nil) (bf_hm.mono (by omega)) hkn31
  have df8 := DFL.appK (DFL.nil) (bf_hxm.mono (by omega)) hkn31
  have df9 := DFL.appK (DFL.nil) (bf_hm2.mono (by omega)) hkn31
  have df10 := DFL.appK (DFL.nil) (bf_hxm2.mono (by omega)) hkn31
  have nx11 : NxK [] H0.size Q31 := NxK.tr (NxK.refl [] _) hkn31 hm0.size
  replace mx := mx.nw hs31
  replace hl := hl.nw hs31
  replace hx := fun x hx0 => (hx x hx0).nw hs31
  replace hl2 := hl2.nw hs31
  replace hx2 := fun x hx0 => (hx2 x hx0).nw hs31
  replace hpk := hpk.nw hs31
  replace hm := hm.nw hs31
  replace hxm := fun x hx_ => (hxm x hx_).nw hs31
  replace hm2 := hm2.nw hs31
  replace hxm2 := fun x hx_ => (hxm2 x hx_).nw hs31
  replace hm0 := hm0.tr hs31
  have hz4 := hs31.size
  have hbk_hf := hf.bk
  have hS31 := Bs.empty 1048576 1048576
  have hst := start_fl (cap := 1048576) (most := 1048576) (p := [100, 47, 106]) (by decide) (by decide) (by decide) (by decide) (by decide)
  refine LR.v (Y.move rfl rfl) (Wd.u rfl) rfl rfl ?_
  refine LR.v (Y.extract rfl rfl rfl) (Wd.u rfl) rfl rfl ?_
  refine LR.v (Y.extract rfl rfl rfl) (Wd.u rfl) rfl rfl ?_
  refine LR.v (Y.assign rfl rfl) (Wd.u rfl) rfl rfl ?_
  refine LR.v (Y.assign rfl rfl) (Wd.u rfl) rfl rfl ?_
  refine LR.nil ?_
  refine hK5 _ _ ?_
  refine CW.seq (fun K6 hK6 hE6 => ?_)
  refine CW.seq (fun K7 hK7 hE7 => ?_)
  refine CW.region ?_
  refine LR.v (Y.move rfl rfl) (Wd.u rfl) rfl rfl ?_
  refine LR.v ((Y.neq rfl rfl rfl).isF ((fun h => h rfl))) (Wd.u rfl) rfl rfl ?_
  refine LR.v (Y.move rfl rfl) (Wd.u rfl) rfl rfl ?_
  refine LR.v (Y.move rfl rfl) (Wd.g rfl rfl rfl) rfl rfl ?_
  refine LR.v (Y.peq rfl (by kernel_rfl) (by kernel_rfl) rfl rfl) (Wd.g rfl rfl rfl) rfl rfl ?_
  refine LR.v (Y.pick_f rfl rfl rfl) (Wd.u rfl) rfl rfl ?_
  refine LR.nil ?_
  refine hK7 _ _ ?_
  refine CW.cond_f rfl ?_
  refine CW.skip ?_
  refine hK6 _ _ ?_
  refine CW.seq (fun K8 hK8 hE8 => ?_)
  refine CW.region ?_
  refine LR.v (Y.move rfl rfl) (Wd.u rfl) rfl rfl ?_
  -- call selvage/wal.Open
  refine LR.call rfl Tryz.call9 rfl (Wd.u rfl) rfl rfl (wopen_ok mx_ Q31 g31 b31 (Dk.empty 1048576 1048576) [100, 47, 106] _ w0 _ hf mx (bf_mx.mono (by omega)) (df1) (by decide) hS31 (by decide) hst.1) (fun v42 H42 r42 => ?_)
  have ql12 := hf.bk
  obtain ⟨lb42, t42, l42, Q42, g42, G42, rfl, hf, hkd42, hlg, hkl42, dl242, hrl42, hw42, hx42, hGb42, hGf42, hGk42, hGl42, hs42⟩ := r42
  have df13 := DFL.appK (df1) (bf_mx.mono hm0.size) hkd42
  have df14 := DFL.appK (df2) (bf_hl.mono hm0.size) hkd42
  have df15 := DFL.appK (df3) (bf_hx.mono hm0.size) hkd42
  have df16 := DFL.appK (df4) (bf_hl2.mono hm0.size) hkd42
  have df17 := DFL.appK (df5) (bf_hx2.mono hm0.size) hkd42
  have df18 := DFL.appK (df6) (bf_hpk.mono hm0.size) hkd42
  have df19 := DFL.appK (df7) (bf_hm.mono (by omega)) hkd42
  have df20 := DFL.appK (df8) (bf_hxm.mono (by omega)) hkd42
  have df21 := DFL.appK (df9) (bf_hm2.mono (by omega)) hkd42
  have df22 := DFL.appK (df10) (bf_hxm2.mono (by omega)) hkd42
  have nx23 : NxK [] H0.size Q42 := NxK.tr (nx11) hkd42 hm0.size
  have df24 := DF.app (DF.z) (bf_mx.mono hm0.size) hkl42
  have df25 := DF.app (DF.z) (bf_hl.mono hm0.size) hkl42
  have df26 := DF.app (DF.z) (bf_hx.mono hm0.size) hkl42
  have df27 := DF.app (DF.z) (bf_hl2.mono hm0.size) hkl42
  have df28 := DF.app (DF.z) (bf_hx2.mono hm0.size) hkl42
  have df29 := DF.app (DF.z) (bf_hpk.mono hm0.size) hkl42
  have df30 := DF.app (DF.z) (bf_hm.mono (by omega)) hkl42
  have df31 := DF.app (DF.z) (bf_hxm.mono (by omega)) hkl42
  have df32 := DF.app (DF.z) (bf_hm2.mono (by omega)) hkl42
  have df33 := DF.app (DF.z) (bf_hxm2.mono (by omega)) hkl42
  have dj34 : DL (lb42 + 1) Q31 := DL.app2 (DL.zK) ql12 hkl42
  have nx35 : Nx 0 H0.size (lb42 + 1) := Nx.tr (Nx.refl 0 _) hkl42 hm0.size
  replace mx := mx.upL hs42 (df1)
  replace hl := hl.upL hs42 (df2)
  replace hx := fun x hx0 => (hx x hx0).upL hs42 (df3)
  replace hl2 := hl2.upL hs42 (df4)
  replace hx2 := fun x hx0 => (hx2 x hx0).upL hs42 (df5)
  replace hpk := hpk.upL hs42 (df6)
  replace hm := hm.upL hs42 (df7)
  replace hxm := fun x hx_ => (hxm x hx_).upL hs42 (df8)
  replace hm2 := hm2.upL hs42 (df9)
  replace hxm2 := fun x hx_ => (hxm2 x hx_).upL hs42 (df10)
  replace hm0 := (Mo.trL (ks := []) (hm0.mdn []) hs42 (MIL.ofK0 (nx11))).nil
  have hz5 := hs42.size
  have hbk_hf := hf.bk
  have hle_hlg := hlg.le
  have bf_hw42 := hGb42
  have bf_hx42 := hGb42
  have hS42 := bs_open hS31 [100, 47, 106]
  rw [hst.2.1] at hrl42
  have hl0 : l42.length = 0 := by have := congrArg List.length hrl42; simpa [recs] using this
  refine LR.v (Y.move rfl rfl) (Wd.u rfl) rfl rfl ?_
  refine LR.v (Y.extract rfl rfl rfl) (Wd.u rfl) rfl rfl ?_
  refine LR.v (Y.extract rfl rfl rfl) (Wd.u rfl) rfl rfl ?_
  refine LR.v (Y.extract rfl rfl rfl) (Wd.u rfl) rfl rfl ?_
  refine LR.v (Y.assign rfl rfl) (Wd.u rfl) rfl rfl ?_
  refine LR.v (Y.assign rfl rfl) (Wd.u rfl) rfl rfl ?_
  refine LR.v (Y.assign rfl rfl) (Wd.u rfl) rfl rfl ?_
  refine LR.nil ?_
  refine hK8 _ _ ?_
  refine CW.seq (fun K9 hK9 hE9 => ?_)
  refine CW.seq (fun K10 hK10 hE10 => ?_)
  refine CW.region ?_
  refine LR.v (Y.move rfl rfl) (Wd.u rfl) rfl rfl ?_
  refine LR.v ((Y.neq rfl rfl rfl).isF ((fun h => h rfl))) (Wd.u rfl) rfl rfl ?_
  refine LR.v (Y.move rfl rfl) (Wd.u rfl) rfl rfl ?_
  refine LR.v (Y.move rfl rfl) (Wd.g rfl rfl rfl) rfl rfl ?_
  refine LR.v (Y.peq rfl (by kernel_rfl) (by kernel_rfl) rfl rfl) (Wd.g rfl rfl rfl) rfl rfl ?_
  refine LR.v (Y.pick_f rfl rfl rfl) (Wd.u rfl) rfl rfl ?_
  refine LR.nil ?_
  refine hK10 _ _ ?_
  refine CW.cond_f rfl ?_
  refine CW.skip ?_
  refine hK9 _ _ ?_
  refine CW.seq (fun K11 hK11 hE11 => ?_)
  refine CW.seq (fun K12 hK12 hE12 => ?_)
  refine CW.region ?_
  refine LR.v (Y.assign rfl rfl) (Wd.u rfl) rfl rfl ?_
  refine LR.nil ?_
  refine hK12 _ _ ?_
  refine CW.block (fun K13 hK13 hX13 hE13 => ?_)
  refine CW.loop (fun (s_ : (Nat) × (List Nat) × (Gh) × (Dk)) => match s_ with | (i, Ki, gi, Di) => [(0, t27.v), (1, t29.v), (2, .bool chk), (3, .int .i64 st), (4, s4.v), (5, .int .i64 ag), (13, ptr b31), (15, ptr lb42), (18, .int .i64 (i : Int))])
    (fun (s_ : (Nat) × (List Nat) × (Gh) × (Dk)) (H : Heap) => match s_ with | (i, Ki, gi, Di) => (PDk Ki gi H b31 Di) ∧ (Var 76 H lb42 [ptr b31, Str [100, 47, 106], .int .i64 (i : Int), .bool false]) ∧ (i ≤ m.length) ∧ (Fl [100, 47, 106] (encW (recs (m.take (i)))) Di ∧ Di.dead = false ∧ Di.left = 0) ∧ (Bs (112 + i * 600000) Di) ∧ (NxK Q42 H42.size Ki) ∧ (Nx (lb42 + 1) H42.size ((lb42 + 1))) ∧ (DL ((lb42 + 1)) Ki) ∧ Mo (Ms (Q42 ++ [(lb42 + 1)])) H42 H)
    (fun (s_ : (Nat) × (List Nat) × (Gh) × (Dk)) => match s_ with | (i, Ki, gi, Di) => m.length - i) (0, Q42, g42, (openD (Dk.empty 1048576 1048576) [100, 47, 106]).2.2) ⟨rfl, rfl, rfl, rfl, rfl, rfl, rfl, rfl, rfl, trivial⟩ ?_ ?_
  ·
    exact ⟨hf, by rw [hl0] at hlg; exact hlg, (by omega), hst.2.2, hS42.mono (by omega), NxK.refl _ _, Nx.refl _ _, dl242, Mo.refl _ _⟩
  rintro ⟨i, Ki, gi, Di⟩ HL1 hI1 K14 hN14 hE14
  obtain ⟨hf, hlg, hi, hfl, hB, nxl_hf, nxl_hlg, dj_hf_hlg, hlm1⟩ := hI1
  have df36 := DFL.appK (df13) (bf_mx.mono hm0.size) nxl_hf
  have df37 := DFL.appK (df14) (bf_hl.mono hm0.size) nxl_hf
  have df38 := DFL.appK (df15) (bf_hx.mono hm0.size) nxl_hf
  have df39 := DFL.appK (df16) (bf_hl2.mono hm0.size) nxl_hf
  have df40 := DFL.appK (df17) (bf_hx2.mono hm0.size) nxl_hf
  have df41 := DFL.appK (df18) (bf_hpk.mono hm0.size) nxl_hf
  have df42 := DFL.appK (df19) (bf_hm.mono (by omega)) nxl_hf
  have df43 := DFL.appK (df20) (bf_hxm.mono (by omega)) nxl_hf
  have df44 := DFL.appK (df21) (bf_hm2.mono (by omega)) nxl_hf
  have df45 := DFL.appK (df22) (bf_hxm2.mono (by omega)) nxl_hf
  have df46 := DFL.appK (hGk42) (bf_hw42.mono (by omega)) nxl_hf
  have df47 := DFL.appK (hGk42) (bf_hx42.mono (by omega)) nxl_hf
  have nx48 : NxK [] H0.size Ki := NxK.tr (nx23) nxl_hf hm0.size
  have df49 := DF.app (df24) (bf_mx.mono hm0.size) nxl_hlg
  have df50 := DF.app (df25) (bf_hl.mono hm0.size) nxl_hlg
  have df51 := DF.app (df26) (bf_hx.mono hm0.size) nxl_hlg
  have df52 := DF.app (df27) (bf_hl2.mono hm0.size) nxl_hlg
  have df53 := DF.app (df28) (bf_hx2.mono hm0.size) nxl_hlg
  have df54 := DF.app (df29) (bf_hpk.mono hm0.size) nxl_hlg
  have df55 := DF.app (df30) (bf_hm.mono (by omega)) nxl_hlg
  have df56 := DF.app (df31) (bf_hxm.mono (by omega)) nxl_hlg
  have df57 := DF.app (df32) (bf_hm2.mono (by omega)) nxl_hlg
  have df58 := DF.app (df33) (bf_hxm2.mono (by omega)) nxl_hlg
  have df59 := DF.app (hGl42) (bf_hw42.mono (by omega)) nxl_hlg
  have df60 := DF.app (hGl42) (bf_hx42.mono (by omega)) nxl_hlg
  have nx61 : Nx 0 H0.size ((lb42 + 1)) := Nx.tr (nx35) nxl_hlg hm0.size
  replace mx := mx.upL hlm1 (DFL.app df13 (DFL.cons df24 DFL.nil))
  replace hl := hl.upL hlm1 (DFL.app df14 (DFL.cons df25 DFL.nil))
  replace hx := fun x hx0 => (hx x hx0).upL hlm1 (DFL.app df15 (DFL.cons df26 DFL.nil))
  replace hl2 := hl2.upL hlm1 (DFL.app df16 (DFL.cons df27 DFL.nil))
  replace hx2 := fun x hx0 => (hx2 x hx0).upL hlm1 (DFL.app df17 (DFL.cons df28 DFL.nil))
  replace hpk := hpk.upL hlm1 (DFL.app df18 (DFL.cons df29 DFL.nil))
  replace hm := hm.upL hlm1 (DFL.app df19 (DFL.cons df30 DFL.nil))
  replace hxm := fun x hx_ => (hxm x hx_).upL hlm1 (DFL.app df20 (DFL.cons df31 DFL.nil))
  replace hm2 := hm2.upL hlm1 (DFL.app df21 (DFL.cons df32 DFL.nil))
  replace hxm2 := fun x hx_ => (hxm2 x hx_).upL hlm1 (DFL.app df22 (DFL.cons df33 DFL.nil))
  replace hw42 := hw42.upL hlm1 (DFL.app hGk42 (DFL.cons hGl42 DFL.nil))
  replace hx42 := fun x hx_ => (hx42 x hx_).upL hlm1 (DFL.app hGk42 (DFL.cons hGl42 DFL.nil))
  replace hm0 := (Mo.trL (ks := []) (hm0.mdn []) hlm1 (MIL.app (MIL.ofK0 (nx23)) (MIL.cons (MI.app MI.z (nx35) (Nat.le_refl _)) MIL.nil))).nil
  have hz6 := hlm1.size
  have hbk_hf := hf.bk
  have hle_hlg := hlg.le
  have dj62 := dj_hf_hlg
  have nx63 := nxl_hf
  have nx64 := nxl_hlg
  refine CW.seq (fun K15 hK15 hE15 => ?_)
  refine CW.seq (fun K16 hK16 hE16 => ?_)
  refine CW.region ?_
  refine LR.v (Y.move rfl rfl) (Wd.u rfl) rfl rfl ?_
  refine LR.v (Y.move rfl rfl) (Wd.u rfl) rfl rfl ?_
  refine LR.v (Y.len hm rfl Tryz.runUnderlying22 rfl) (Wd.u rfl) rfl rfl ?_
  refine LR.v (Y.lss rfl rfl rfl) (Wd.u rfl) rfl rfl ?_
  refine LR.nil ?_
  refine hK16 _ _ ?_
  refine CW.condp rfl (fun c55 => ?_) (fun c55 => ?_)
  ·
    have hil : i < m.length := by omega
    have hxi := hxm m[i] (List.getElem_mem hil)
    have hri := hfm m[i] (List.getElem_mem hil)
    have hti : (recs (m.take i)).length = i := by unfold recs; rw [List.length_map, List.length_take]; omega
    have hte : recs (m.take (i + 1)) = recs (m.take i) ++ [m[i].2] := by unfold recs; rw [List.take_succ_eq_append_getElem hil, List.map_append]; rfl
    have hel : (encW (recs (m.take i))).length + (13 + m[i].2.length) ≤ 60268 := by rw [← encW_take hil]; unfold encW; rw [List.length_append]; have h1 := encN_take_le m (i + 1); have h8 : W8.length = 8 := rfl; omega
    refine CW.skip ?_
    refine hK15 _ _ ?_
    refine CW.seq (fun K17 hK17 hE17 => ?_)
    refine CW.block (fun K18 hK18 hX18 hE18 => ?_)
    refine CW.seq (fun K19 hK19 hE19 => ?_)
    refine CW.region ?_
    refine LR.v (Y.move rfl rfl) (Wd.u rfl) rfl rfl ?_
    refine LR.v (Y.move rfl rfl) (Wd.u rfl) rfl rfl ?_
    refine LR.v (Y.move rfl rfl) (Wd.u rfl) rfl rfl ?_
    refine LR.e (g := fun ad => .pointer (some ad)) (Y.indexAddrF hm (i) rfl Tryz.runUnderlying22 Tryz.sizeOf34 rfl rfl (by first | rfl | omega) (by first | omega | (simp; omega) | (simp; done))) (Wd.u rfl) rfl rfl (fun ad61 pt61 => ?_)
    have bf_pt61 := bf_hm
    refine LR.v (Y.load1 pt61.pt rfl Tryz.isAgg34 rfl) (Wd.u rfl) rfl rfl ?_
    -- call (*selvage/wal.Log).Append
    refine LR.call rfl Tryz.call10 rfl (Wd.u rfl) rfl rfl (wapp_ct mx_ Ki gi b31 Di lb42 [100, 47, 106] i false m[i].1 m[i].2 _ _ w0 _ hf mx (bf_mx.mono (by omega)) (df36) hlg (dj62) (df49) hxi (bf_hxm.mono (by omega)) (df43) (df56) (by omega) (by decide) hB (by omega) (by omega)) (fun v63 H63 r63 => ?_)
    have ql65 := hlg.le
    have ql66 := hf.bk
    obtain ⟨Q63, g63, rfl, hf, hkd63, hlg, dl263, hs63⟩ := r63
    have df67 := DFL.appK (df36) (bf_mx.mono hm0.size) hkd63
    have df68 := DFL.appK (df37) (bf_hl.mono hm0.size) hkd63
    have df69 := DFL.appK (df38) (bf_hx.mono hm0.size) hkd63
    have df70 := DFL.appK (df39) (bf_hl2.mono hm0.size) hkd63
    have df71 := DFL.appK (df40) (bf_hx2.mono hm0.size) hkd63
    have df72 := DFL.appK (df41) (bf_hpk.mono hm0.size) hkd63
    have df73 := DFL.appK (df42) (bf_hm.mono (by omega)) hkd63
    have df74 := DFL.appK (df43) (bf_hxm.mono (by omega)) hkd63
    have df75 := DFL.appK (df44) (bf_hm2.mono (by omega)) hkd63
    have df76 := DFL.appK (df45) (bf_hxm2.mono (by omega)) hkd63
    have df77 := DFL.appK (df46) (bf_hw42.mono (by omega)) hkd63
    have df78 := DFL.appK (df47) (bf_hx42.mono (by omega)) hkd63
    have dj79 : DL ((lb42 + 1)) Q63 := DL.appK (dj62) ql65 hkd63
    have df80 := DFL.appK (df42) (bf_pt61.mono (by omega)) hkd63
    have nx81 : NxK [] H0.size Q63 := NxK.tr (nx48) hkd63 hm0.size
    have nx82 : NxK Q42 H42.size Q63 := NxK.tr (nx63) hkd63 hlm1.size
    replace mx := mx.upL hs63 (DFL.app df36 (DFL.cons df49 DFL.nil))
    replace hl := hl.upL hs63 (DFL.app df37 (DFL.cons df50 DFL.nil))
    replace hx := fun x hx0 => (hx x hx0).upL hs63 (DFL.app df38 (DFL.cons df51 DFL.nil))
    replace hl2 := hl2.upL hs63 (DFL.app df39 (DFL.cons df52 DFL.nil))
    replace hx2 := fun x hx0 => (hx2 x hx0).upL hs63 (DFL.app df40 (DFL.cons df53 DFL.nil))
    replace hpk := hpk.upL hs63 (DFL.app df41 (DFL.cons df54 DFL.nil))
    replace hm := hm.upL hs63 (DFL.app df42 (DFL.cons df55 DFL.nil))
    replace hxm := fun x hx_ => (hxm x hx_).upL hs63 (DFL.app df43 (DFL.cons df56 DFL.nil))
    replace hm2 := hm2.upL hs63 (DFL.app df44 (DFL.cons df57 DFL.nil))
    replace hxm2 := fun x hx_ => (hxm2 x hx_).upL hs63 (DFL.app df45 (DFL.cons df58 DFL.nil))
    replace hw42 := hw42.upL hs63 (DFL.app df46 (DFL.cons df59 DFL.nil))
    replace hx42 := fun x hx_ => (hx42 x hx_).upL hs63 (DFL.app df47 (DFL.cons df60 DFL.nil))
    replace pt61 := pt61.upL hs63 (DFL.app df42 (DFL.cons df55 DFL.nil))
    replace hm0 := (Mo.trL (ks := []) (hm0.mdn []) hs63 (MIL.app (MIL.ofK0 (nx48)) (MIL.cons (MI.app MI.z (nx61) (Nat.le_refl _)) MIL.nil))).nil
    replace hlm1 := hlm1.trL hs63 (MIL.app (MIL.ofK (nx63) (by intro k hk; simp [hk])) (MIL.cons (MI.app (MI.root (by simp)) (nx64) (Nat.le_refl _)) MIL.nil))
    have hz7 := hs63.size
    have hbk_hf := hf.bk
    have hap := app_fl (r := m[i].2) hfl.1 hfl.2.1 hfl.2.2 (by decide) (by omega) (by omega)
    rw [hti, ← hte] at hap
    obtain ⟨a1, a2, a3, a4, a5, a6⟩ := hap
    have hrdl := fl_rdl hfl.1
    have hB2 := bs_app2 hB [100, 47, 106] i false m[i].2 (M := 60276) (by omega)
    refine LR.v ((Y.neq rfl rfl rfl).isF ((fun h => h (by omega)))) (Wd.u rfl) rfl rfl ?_
    refine LR.nil ?_
    refine hK19 _ _ ?_
    refine CW.cond_f rfl ?_
    refine CW.skip ?_
    refine hK18 _ _ ?_
    refine hK17 _ _ ?_
    refine CW.region ?_
    refine LR.v (Y.move rfl rfl) (Wd.u rfl) rfl rfl ?_
    refine LR.v (Y.addi rfl rfl rfl (by omega)) (Wd.u rfl) rfl rfl ?_
    refine LR.v (Y.assign rfl rfl) (Wd.u rfl) rfl rfl ?_
    refine LR.nil ?_
    refine QN.sub (hN14 (i + 1, Q63, g63, (appD Di [100, 47, 106] i false m[i].2).2.2.2) _ ?_ ?_) ⟨rfl, rfl, rfl, (iv (by omega)), rfl, (iv (by omega)), rfl, rfl, (iv (by omega)), trivial⟩
    · exact ⟨hf, by rw [a2, a3] at hlg; exact hlg, (by omega), ⟨a4, a5, a6⟩, hB2.mono (by omega), nx82, nx64, dl263, hlm1⟩
    · first | omega | (simp only; omega) | (simp; omega)
  ·
    have hil : i = m.length := by omega
    rw [hil, List.take_length] at hfl
    rw [hil] at hlg
    obtain ⟨hfl1, hfl2, hfl3⟩ := hfl
    refine CW.exit (hE15 (.exit 0) nofun _ _ (hE14 (.exit 0) nofun _ _ (hX13 _ _ ?_)))
    refine hK11 _ _ ?_
    refine CW.seq (fun K20 hK20 hE20 => ?_)
    refine CW.region ?_
    refine LR.v (Y.move rfl rfl) (Wd.u rfl) rfl rfl ?_
    refine LR.v (Y.move rfl rfl) (Wd.u rfl) rfl rfl ?_
    -- call selvage/selvagelaw3.within
    refine LR.call rfl Tryz.call15 rfl (Wd.u rfl) rfl rfl (within3_ct st 6 w0 _ (by omega) hst_) (fun v67 H67 r67 => ?_)
    obtain ⟨rfl, hs67⟩ := r67
    replace mx := mx.nw hs67
    replace hl := hl.nw hs67
    replace hx := fun x hx0 => (hx x hx0).nw hs67
    replace hl2 := hl2.nw hs67
    replace hx2 := fun x hx0 => (hx2 x hx0).nw hs67
    replace hpk := hpk.nw hs67
    replace hm := hm.nw hs67
    replace hxm := fun x hx_ => (hxm x hx_).nw hs67
    replace hm2 := hm2.nw hs67
    replace hxm2 := fun x hx_ => (hxm2 x hx_).nw hs67
    replace hw42 := hw42.nw hs67
    replace hx42 := fun x hx_ => (hx42 x hx_).nw hs67
    replace hlg := hlg.nw hs67
    replace hf := hf.nw hs67
    replace hm0 := hm0.tr hs67
    have hz8 := hs67.size
    have hwk := wiN_lt (a := st) (show 0 < 6 by omega)
    obtain ⟨k, hk⟩ : ∃ k, k = 1 + wiN st 6 := ⟨_, rfl⟩
    refine LR.v (Y.cast (v2 := .int .i64 (k : Int)) (Y.addi rfl rfl rfl (by omega)) (ivv (by omega))) (Wd.u rfl) rfl rfl ?_
    -- call (*selvage/simfs.FS).Stop
    refine LR.call rfl Tryz.call14 rfl (Wd.u rfl) rfl rfl (stop_ct Ki gi b31 Di (k : Int) w0 _ hf (by omega)) (fun v69 H69 r69 => ?_)
    obtain ⟨g69, rfl, hf, hg69, hs69⟩ := r69
    replace mx := mx.upL hs69 (df36)
    replace hl := hl.upL hs69 (df37)
    replace hx := fun x hx0 => (hx x hx0).upL hs69 (df38)
    replace hl2 := hl2.upL hs69 (df39)
    replace hx2 := fun x hx0 => (hx2 x hx0).upL hs69 (df40)
    replace hpk := hpk.upL hs69 (df41)
    replace hm := hm.upL hs69 (df42)
    replace hxm := fun x hx_ => (hxm x hx_).upL hs69 (df43)
    replace hm2 := hm2.upL hs69 (df44)
    replace hxm2 := fun x hx_ => (hxm2 x hx_).upL hs69 (df45)
    replace hw42 := hw42.upL hs69 (df46)
    replace hx42 := fun x hx_ => (hx42 x hx_).upL hs69 (df47)
    replace hlg := hlg.upL hs69 (dj62)
    replace hm0 := (Mo.trL (ks := []) (hm0.mdn []) hs69 (MIL.ofK0 (nx48))).nil
    have hz9 := hs69.size
    replace hf : PDk Ki g69 H69 b31 (Di.stop k) := hf
    have hflk := hfl1.stop k
    have hS69 := hB.stop k
    refine LR.nil ?_
    refine hK20 _ _ ?_
    refine CW.seq (fun K21 hK21 hE21 => ?_)
    refine CW.region ?_
    refine LR.v (Y.move rfl rfl) (Wd.u rfl) rfl rfl ?_
    refine LR.v (Y.assign rfl rfl) (Wd.u rfl) rfl rfl ?_
    refine LR.nil ?_
    refine hK21 _ _ ?_
    refine CW.cut (fun (s_ : (List Nat) × (Gh) × (Dk) × (SV) × (SV) × (List (SV × Rec)) × (List (SV × Rec)) × (Nat → Prop) × (List Value)) => match s_ with | (Qc, gc, Dc, sl, sw, L, W, G, cl) => [(0, sl.v), (4, s4.v), (5, .int .i64 ag), (13, ptr b31), (19, sw.v)])
      (fun (s_ : (List Nat) × (Gh) × (Dk) × (SV) × (SV) × (List (SV × Rec)) × (List (SV × Rec)) × (Nat → Prop) × (List Value)) (H : Heap) => match s_ with | (Qc, gc, Dc, sl, sw, L, W, G, cl) => (PDk Qc gc H b31 Dc) ∧ (∀ u : Unit, Rd G H fP 1 sl.v L) ∧ (∀ x ∈ L, Rd G H fB 1 x.1.v x.2) ∧ (∀ u : Unit, Rd G H fP 1 sw.v W) ∧ (∀ x ∈ W, Rd G H fB 1 x.1.v x.2) ∧ (BF G H.size) ∧ (BF G H.size) ∧ (BF G H.size) ∧ (BF G H.size) ∧ (DFL G Qc) ∧ (DFL G Qc) ∧ (DFL G Qc) ∧ (DFL G Qc) ∧ (Var 76 H lb42 cl) ∧ (Safe [100, 47, 106] (recs L) (recs W) Dc) ∧ (∀ r ∈ recs L, r.length ≤ 1048576) ∧ (∀ r ∈ recs W, r.length ≤ 1048576) ∧ (Bs 20000000 Dc) ∧ (NxK Ki H69.size Qc) ∧ (Nx ((lb42 + 1)) H69.size ((lb42 + 1))) ∧ (DL ((lb42 + 1)) Qc) ∧ Mo (Ms (Ki ++ [((lb42 + 1))])) H69 H) (fun K22 hK22 hE22 => ?_) ?_
    ·
      have hcm22 : Mo (Ms (Ki ++ [((lb42 + 1))])) H69 H69 := Mo.refl _ _
      have nx_hcm22_hf := NxK.refl Ki H69.size
      have nx_hcm22_hlg := Nx.refl ((lb42 + 1)) H69.size
      refine CW.seq (fun K23 hK23 hE23 => ?_)
      refine CW.region ?_
      refine LR.v (Y.move rfl rfl) (Wd.u rfl) rfl rfl ?_
      refine LR.nil ?_
      refine hK23 _ _ ?_
      refine CW.cond rfl (fun c71 => ?_) (fun c71 => ?_)
      ·
        refine CW.seq (fun K24 hK24 hE24 => ?_)
        refine CW.seq (fun K25 hK25 hE25 => ?_)
        refine CW.region ?_
        refine LR.v (Y.move rfl rfl) (Wd.u rfl) rfl rfl ?_
        refine LR.v (Y.move rfl rfl) (Wd.u rfl) rfl rfl ?_
        -- call (*selvage/wal.Log).Checkpoint
        refine LR.call rfl Tryz.call16 rfl (Wd.u rfl) rfl rfl (ckpt_ct mx_ Ki g69 b31 (Di.stop k) lb42 [100, 47, 106] m.length false t29 m2 _ _ w0 _ hf mx (bf_mx.mono (by omega)) (df36) hlg (dj62) (df49) hm2 (bf_hm2.mono (by omega)) (df44) hxm2 (bf_hxm2.mono (by omega)) (df45) (fun x h => by have := hfm2 x h; omega) (by omega) (df57) (df58) (by decide) hS69 (by omega) (by omega)) (fun v74 H74 r74 => ?_)
        have ql83 := hlg.le
        have ql84 := hf.bk
        obtain ⟨Q74, g74, rfl, hf, hkd74, hlg, dl274, hs74⟩ := r74
        have df85 := DFL.appK (df36) (bf_mx.mono hm0.size) hkd74
        have df86 := DFL.appK (df37) (bf_hl.mono hm0.size) hkd74
        have df87 := DFL.appK (df38) (bf_hx.mono hm0.size) hkd74
        have df88 := DFL.appK (df39) (bf_hl2.mono hm0.size) hkd74
        have df89 := DFL.appK (df40) (bf_hx2.mono hm0.size) hkd74
        have df90 := DFL.appK (df41) (bf_hpk.mono hm0.size) hkd74
        have df91 := DFL.appK (df42) (bf_hm.mono (by omega)) hkd74
        have df92 := DFL.appK (df43) (bf_hxm.mono (by omega)) hkd74
        have df93 := DFL.appK (df44) (bf_hm2.mono (by omega)) hkd74
        have df94 := DFL.appK (df45) (bf_hxm2.mono (by omega)) hkd74
        have df95 := DFL.appK (df46) (bf_hw42.mono (by omega)) hkd74
        have df96 := DFL.appK (df47) (bf_hx42.mono (by omega)) hkd74
        have dj97 : DL ((lb42 + 1)) Q74 := DL.appK (dj62) ql83 hkd74
        have nx98 : NxK [] H0.size Q74 := NxK.tr (nx48) hkd74 hm0.size
        have nx99 : NxK Ki H69.size Q74 := NxK.tr (nx_hcm22_hf) hkd74 hcm22.size
        replace mx := mx.upL hs74 (DFL.app df36 (DFL.cons df49 DFL.nil))
        replace hl := hl.upL hs74 (DFL.app df37 (DFL.cons df50 DFL.nil))
        replace hx := fun x hx0 => (hx x hx0).upL hs74 (DFL.app df38 (DFL.cons df51 DFL.nil))
        replace hl2 := hl2.upL hs74 (DFL.app df39 (DFL.cons df52 DFL.nil))
        replace hx2 := fun x hx0 => (hx2 x hx0).upL hs74 (DFL.app df40 (DFL.cons df53 DFL.nil))
        replace hpk := hpk.upL hs74 (DFL.app df41 (DFL.cons df54 DFL.nil))
        replace hm := hm.upL hs74 (DFL.app df42 (DFL.cons df55 DFL.nil))
        replace hxm := fun x hx_ => (hxm x hx_).upL hs74 (DFL.app df43 (DFL.cons df56 DFL.nil))
        replace hm2 := hm2.upL hs74 (DFL.app df44 (DFL.cons df57 DFL.nil))
        replace hxm2 := fun x hx_ => (hxm2 x hx_).upL hs74 (DFL.app df45 (DFL.cons df58 DFL.nil))
        replace hw42 := hw42.upL hs74 (DFL.app df46 (DFL.cons df59 DFL.nil))
        replace hx42 := fun x hx_ => (hx42 x hx_).upL hs74 (DFL.app df47 (DFL.cons df60 DFL.nil))
        replace hm0 := (Mo.trL (ks := []) (hm0.mdn []) hs74 (MIL.app (MIL.ofK0 (nx48)) (MIL.cons (MI.app MI.z (nx61) (Nat.le_refl _)) MIL.nil))).nil
        replace hcm22 := hcm22.trL hs74 (MIL.app (MIL.ofK (nx_hcm22_hf) (by intro k hk; simp [hk])) (MIL.cons (MI.app (MI.root (by simp)) (nx_hcm22_hlg) (Nat.le_refl _)) MIL.nil))
        have hz10 := hs74.size
        have hbk_hf := hf.bk
        obtain ⟨cs1, cs2⟩ := ckp_safe (e := recs m2) hflk hfl2 (by decide) (by decide) (by decide) (by omega)
        have hB74 := bs_fresh hS69 [100, 47, 106] (recs m2)
        refine LR.v (Y.eql rfl rfl rfl) (Wd.u rfl) rfl rfl ?_
        refine LR.nil ?_
        refine hK25 _ _ ?_
        refine CW.condp rfl (fun c75 => ?_) (fun c75 => ?_)
        ·
          refine CW.region ?_
          refine LR.v (Y.move rfl rfl) (Wd.u rfl) rfl rfl ?_
          refine LR.v (Y.assign rfl rfl) (Wd.u rfl) rfl rfl ?_
          refine LR.nil ?_
          refine hK24 _ _ ?_
          refine CW.region ?_
          refine LR.v (Y.move rfl rfl) (Wd.u rfl) rfl rfl ?_
          refine LR.v (Y.assign rfl rfl) (Wd.u rfl) rfl rfl ?_
          refine LR.nil ?_
          refine QN.sub (hK22 (Q74, g74, (freshD (Di.stop k) [100, 47, 106] (recs m2)).2, t29, t29, m2, m2, (fun b => (H24.size ≤ b ∧ b < H27.size) ∨ (H27.size ≤ b ∧ b < H29.size)), [ptr b31, Str [100, 47, 106], .int .i64 (lgN (freshD (Di.stop k) [100, 47, 106] (recs m2)).1 m2.length m.length : Int), .bool (lgB (freshD (Di.stop k) [100, 47, 106] (recs m2)).1 false)]) _ ?_) ⟨rfl, rfl, (iv (by omega)), rfl, rfl, trivial⟩
          exact ⟨hf, (fun _ => hm2.imp (fun b _ h => .inr h)), (fun x h => (hxm2 x h).imp (fun b _ h => .inr h)), (fun _ => hm2.imp (fun b _ h => .inr h)), (fun x h => (hxm2 x h).imp (fun b _ h => .inr h)), (fun b h => by rcases h with h | h <;> omega), (fun b h => by rcases h with h | h <;> omega), (fun b h => by rcases h with h | h <;> omega), (fun b h => by rcases h with h | h <;> omega), (fun j hj b h => h.elim (fun h => (df91) j hj b h) (fun h => (df93) j hj b h)), (fun j hj b h => h.elim (fun h => (df91) j hj b h) (fun h => (df93) j hj b h)), (fun j hj b h => h.elim (fun h => (df91) j hj b h) (fun h => (df93) j hj b h)), (fun j hj b h => h.elim (fun h => (df91) j hj b h) (fun h => (df93) j hj b h)), hlg, cs2 (by omega), (fun r h => hmm2 r h), (fun r h => hmm2 r h), hB74.mono (by omega), nx99, nx_hcm22_hlg, dl274, hcm22⟩
        ·
          refine CW.skip ?_
          refine hK24 _ _ ?_
          refine CW.region ?_
          refine LR.v (Y.move rfl rfl) (Wd.u rfl) rfl rfl ?_
          refine LR.v (Y.assign rfl rfl) (Wd.u rfl) rfl rfl ?_
          refine LR.nil ?_
          refine QN.sub (hK22 (Q74, g74, (freshD (Di.stop k) [100, 47, 106] (recs m2)).2, t27, t29, m, m2, (fun b => (H24.size ≤ b ∧ b < H27.size) ∨ (H27.size ≤ b ∧ b < H29.size)), [ptr b31, Str [100, 47, 106], .int .i64 (lgN (freshD (Di.stop k) [100, 47, 106] (recs m2)).1 m2.length m.length : Int), .bool (lgB (freshD (Di.stop k) [100, 47, 106] (recs m2)).1 false)]) _ ?_) ⟨rfl, rfl, (iv (by omega)), rfl, rfl, trivial⟩
          exact ⟨hf, (fun _ => hm.imp (fun b _ h => .inl h)), (fun x h => (hxm x h).imp (fun b _ h => .inl h)), (fun _ => hm2.imp (fun b _ h => .inr h)), (fun x h => (hxm2 x h).imp (fun b _ h => .inr h)), (fun b h => by rcases h with h | h <;> omega), (fun b h => by rcases h with h | h <;> omega), (fun b h => by rcases h with h | h <;> omega), (fun b h => by rcases h with h | h <;> omega), (fun j hj b h => h.elim (fun h => (df91) j hj b h) (fun h => (df93) j hj b h)), (fun j hj b h => h.elim (fun h => (df91) j hj b h) (fun h => (df93) j hj b h)), (fun j hj b h => h.elim (fun h => (df91) j hj b h) (fun h => (df93) j hj b h)), (fun j hj b h => h.elim (fun h => (df91) j hj b h) (fun h => (df93) j hj b h)), hlg, cs1, (fun r h => hmm r h), (fun r h => hmm2 r h), hB74.mono (by omega), nx99, nx_hcm22_hlg, dl274, hcm22⟩
      ·
        refine CW.seq (fun K26 hK26 hE26 => ?_)
        refine CW.region ?_
        refine LR.v (Y.move rfl rfl) (Wd.u rfl) rfl rfl ?_
        refine LR.v (Y.len hm2 rfl Tryz.runUnderlying22 rfl) (Wd.u rfl) rfl rfl ?_
        refine LR.v (Y.gtr rfl rfl rfl) (Wd.u rfl) rfl rfl ?_
        refine LR.nil ?_
        refine hK26 _ _ ?_
        refine CW.condp rfl (fun c80 => ?_) (fun c80 => ?_)
        ·
          refine CW.seq (fun K27 hK27 hE27 => ?_)
          refine CW.region_any (fun Hq => Nw H69 Hq) [] rfl ?_
          have hq22 : Nw H69 H69 := Mo.refl _ _
          refine LH.take 1 (by kernel_rfl) rfl (by kernel_rfl) (by kernel_rfl) (by kernel_rfl) (fun Hq hq => Y.move rfl rfl) (Wd.u rfl) rfl rfl hq22 ?_
          refine LH.take 3 (by kernel_rfl) rfl (by kernel_rfl) (by kernel_rfl) (by kernel_rfl) (fun Hq hq => Y.move rfl rfl) (Wd.u rfl) rfl rfl hq22 ?_
          have hm20 : 0 < m2.length := by omega
          have hx20 := hxm2 m2[0] (List.getElem_mem hm20)
          have hr20 := hfm2 m2[0] (List.getElem_mem hm20)
          refine LH.e (g := fun ad => .pointer (some ad)) 4 (by kernel_rfl) rfl (by kernel_rfl) (by kernel_rfl) (by kernel_rfl) (Y.indexAddrF hm2 (0) rfl Tryz.runUnderlying22 Tryz.sizeOf34 rfl rfl (by first | rfl | omega) (by first | omega | (simp; omega) | (simp; done))) (Wd.u rfl) rfl rfl hq22 (fun ad85 pt85 => ?_)
          have bf_pt85 := bf_hm2
          refine LH.take 5 (by kernel_rfl) rfl (by kernel_rfl) (by kernel_rfl) (by kernel_rfl) (fun Hq hq => Y.load1 (pt85.pt.nw hq) rfl Tryz.isAgg34 rfl) (Wd.u rfl) rfl rfl hq22 ?_
          refine LH.two (i := 0) (j := 6) (by kernel_rfl) ?_ ?_
          ·
            refine LO.z rfl (Z.litw _ (([] : List (SV × Rec))) rfl inf22 rfl rfl rfl (by decide) (by decide) fP_len fP_one (rfl)) (Wd.u rfl) rfl rfl (fun v81 H81 r81 => ?_)
            obtain ⟨ow88, hs81, ob81, hH81⟩ := r81
            have hzs81 : H81.size = H69.size + 1 := by rw [hH81]; simp
            have df100 := (DF.new (bf_mx.mono hm0.size) : DF _ (H69.size + 1))
            have df101 := (DF.new (bf_hl.mono hm0.size) : DF _ (H69.size + 1))
            have df102 := (DF.new (bf_hx.mono hm0.size) : DF _ (H69.size + 1))
            have df103 := (DF.new (bf_hl2.mono hm0.size) : DF _ (H69.size + 1))
            have df104 := (DF.new (bf_hx2.mono hm0.size) : DF _ (H69.size + 1))
            have df105 := (DF.new (bf_hpk.mono hm0.size) : DF _ (H69.size + 1))
            have df106 := (DF.new (bf_hm.mono (by omega)) : DF _ (H69.size + 1))
            have df107 := (DF.new (bf_hxm.mono (by omega)) : DF _ (H69.size + 1))
            have df108 := (DF.new (bf_hm2.mono (by omega)) : DF _ (H69.size + 1))
            have df109 := (DF.new (bf_hxm2.mono (by omega)) : DF _ (H69.size + 1))
            have df110 := (DF.new (bf_hw42.mono (by omega)) : DF _ (H69.size + 1))
            have df111 := (DF.new (bf_hx42.mono (by omega)) : DF _ (H69.size + 1))
            have dj112 : Dj ((lb42 + 1)) (H69.size + 1) := Dj.new hlg.le
            have dj113 : DL (H69.size + 1) Ki := DL.newK hf.bk
            have df114 := (DF.new (bf_pt85.mono (by omega)) : DF _ (H69.size + 1))
            have nx115 : Nx 0 H0.size (H69.size + 1) := Nx.new hm0.size
            have nx116 : Nx 0 H69.size (H69.size + 1) := Nx.new hcm22.size
            have nx117 : Nx 0 H69.size (H69.size + 1) := Nx.new hq22.size
            replace mx := mx.nw hs81
            replace hl := hl.nw hs81
            replace hx := fun x hx0 => (hx x hx0).nw hs81
            replace hl2 := hl2.nw hs81
            replace hx2 := fun x hx0 => (hx2 x hx0).nw hs81
            replace hpk := hpk.nw hs81
            replace hm := hm.nw hs81
            replace hxm := fun x hx_ => (hxm x hx_).nw hs81
            replace hm2 := hm2.nw hs81
            replace hxm2 := fun x hx_ => (hxm2 x hx_).nw hs81
            replace hw42 := hw42.nw hs81
            replace hx42 := fun x hx_ => (hx42 x hx_).nw hs81
            replace hlg := hlg.nw hs81
            replace hf := hf.nw hs81
            replace pt85 := pt85.nw hs81
            replace hm0 := hm0.tr hs81
            replace hcm22 := hcm22.trN hs81
            replace hq22 := hq22.tr hs81
            have hz11 := hs81.size
            refine ⟨.inr hq22, LH.narrow (SH2 := fun Hq => Mo (Ms [(H69.size + 1)]) H81 Hq) (fun Hq hq => (Mo.trL (ks := []) (hq22.mdn []) hq (MIL.cons (MI.app MI.z (nx117) (Nat.le_refl _)) MIL.nil)).nil) ?_⟩
            have hq22 : Mo (Ms [(H69.size + 1)]) H81 H81 := Mo.refl _ _
            have nx118 := Nx.refl (H69.size + 1) H81.size
            refine LH.two (i := 2) (j := 6) (by kernel_rfl) ?_ ?_
            ·
              refine LO.z rfl (Z.apnd ow88 hm rfl inf22 rfl rfl (by simp only [List.length_nil]; omega) (by simp only [List.length_nil]; omega)) (Wd.u rfl) rfl rfl (fun v83 H83 r83 => ?_)
              obtain ⟨k83, ow88, hk83, hs83⟩ := r83
              replace hk83 : Nx (H69.size + 1) H81.size k83 := hk83
              replace hs83 := hs83.md
              have df119 := DF.app (df100) (bf_mx.mono hm0.size) hk83
              have df120 := DF.app (df101) (bf_hl.mono hm0.size) hk83
              have df121 := DF.app (df102) (bf_hx.mono hm0.size) hk83
              have df122 := DF.app (df103) (bf_hl2.mono hm0.size) hk83
              have df123 := DF.app (df104) (bf_hx2.mono hm0.size) hk83
              have df124 := DF.app (df105) (bf_hpk.mono hm0.size) hk83
              have df125 := DF.app (df106) (bf_hm.mono (by omega)) hk83
              have df126 := DF.app (df107) (bf_hxm.mono (by omega)) hk83
              have df127 := DF.app (df108) (bf_hm2.mono (by omega)) hk83
              have df128 := DF.app (df109) (bf_hxm2.mono (by omega)) hk83
              have df129 := DF.app (df110) (bf_hw42.mono (by omega)) hk83
              have df130 := DF.app (df111) (bf_hx42.mono (by omega)) hk83
              have dj131 : Dj ((lb42 + 1)) k83 := Dj.app (dj112) hlg.le hk83
              have dj132 : DL k83 Ki := DL.app2 (dj113) hf.bk hk83
              have df133 := DF.app (df114) (bf_pt85.mono (by omega)) hk83
              have nx134 : Nx 0 H0.size k83 := Nx.tr (nx115) hk83 hm0.size
              have nx135 : Nx 0 H69.size k83 := Nx.tr (nx116) hk83 hcm22.size
              have nx136 : Nx (H69.size + 1) H81.size k83 := Nx.tr (nx118) hk83 hq22.size
              replace mx := mx.upL hs83 (DFL.cons df100 DFL.nil)
              replace hl := hl.upL hs83 (DFL.cons df101 DFL.nil)
              replace hx := fun x hx0 => (hx x hx0).upL hs83 (DFL.cons df102 DFL.nil)
              replace hl2 := hl2.upL hs83 (DFL.cons df103 DFL.nil)
              replace hx2 := fun x hx0 => (hx2 x hx0).upL hs83 (DFL.cons df104 DFL.nil)
              replace hpk := hpk.upL hs83 (DFL.cons df105 DFL.nil)
              replace hm := hm.upL hs83 (DFL.cons df106 DFL.nil)
              replace hxm := fun x hx_ => (hxm x hx_).upL hs83 (DFL.cons df107 DFL.nil)
              replace hm2 := hm2.upL hs83 (DFL.cons df108 DFL.nil)
              replace hxm2 := fun x hx_ => (hxm2 x hx_).upL hs83 (DFL.cons df109 DFL.nil)
              replace hw42 := hw42.upL hs83 (DFL.cons df110 DFL.nil)
              replace hx42 := fun x hx_ => (hx42 x hx_).upL hs83 (DFL.cons df111 DFL.nil)
              replace hlg := hlg.upL hs83 (DL.cons dj112 DL.nil)
              replace hf := hf.upL hs83 (DKL.cons dj113 DKL.nil)
              replace pt85 := pt85.upL hs83 (DFL.cons df114 DFL.nil)
              replace hm0 := (Mo.trL (ks := []) (hm0.mdn []) hs83 (MIL.cons (MI.app MI.z (nx115) (Nat.le_refl _)) MIL.nil)).nil
              replace hcm22 := hcm22.trL hs83 (MIL.cons (MI.app MI.z (nx116) (Nat.le_refl _)) MIL.nil)
              replace hq22 := hq22.trL hs83 (MIL.cons (MI.app (MI.root (by simp)) (nx118) (Nat.le_refl _)) MIL.nil)
              have hz12 := hs83.size
              have hle_ow88 := ow88.le
              rw [List.nil_append] at ow88
              refine ⟨.inr hq22, LH.narrow (SH2 := fun Hq => Mo (Ms [k83]) H83 Hq) (fun Hq hq => hq22.trL hq (MIL.cons (MI.app (MI.root (by simp)) (nx136) (Nat.le_refl _)) MIL.nil)) ?_⟩
              have hq22 : Mo (Ms [k83]) H83 H83 := Mo.refl _ _
              have nx137 := Nx.refl k83 H83.size
              refine LH.one (i := 6) (by kernel_rfl) ?_
              refine LO.z rfl (Z.litw _ ([m2[0]]) rfl inf22 rfl rfl rfl (by decide) (by decide) fP_len fP_one (rfl)) (Wd.u rfl) rfl rfl (fun v87 H87 r87 => ?_)
              obtain ⟨nw87, hs87, ob87, hH87⟩ := r87
              have hzs87 : H87.size = H83.size + 1 := by rw [hH87]; simp
              have df138 := (DF.new (bf_mx.mono hm0.size) : DF _ (H83.size + 1))
              have df139 := (DF.new (bf_hl.mono hm0.size) : DF _ (H83.size + 1))
              have df140 := (DF.new (bf_hx.mono hm0.size) : DF _ (H83.size + 1))
              have df141 := (DF.new (bf_hl2.mono hm0.size) : DF _ (H83.size + 1))
              have df142 := (DF.new (bf_hx2.mono hm0.size) : DF _ (H83.size + 1))
              have df143 := (DF.new (bf_hpk.mono hm0.size) : DF _ (H83.size + 1))
              have df144 := (DF.new (bf_hm.mono (by omega)) : DF _ (H83.size + 1))
              have df145 := (DF.new (bf_hxm.mono (by omega)) : DF _ (H83.size + 1))
              have df146 := (DF.new (bf_hm2.mono (by omega)) : DF _ (H83.size + 1))
              have df147 := (DF.new (bf_hxm2.mono (by omega)) : DF _ (H83.size + 1))
              have df148 := (DF.new (bf_hw42.mono (by omega)) : DF _ (H83.size + 1))
              have df149 := (DF.new (bf_hx42.mono (by omega)) : DF _ (H83.size + 1))
              have dj150 : Dj ((lb42 + 1)) (H83.size + 1) := Dj.new hlg.le
              have dj151 : DL (H83.size + 1) Ki := DL.newK hf.bk
              have df152 := (DF.new (bf_pt85.mono (by omega)) : DF _ (H83.size + 1))
              have dj153 : Dj k83 (H83.size + 1) := Dj.new ow88.le
              have nx154 : Nx 0 H0.size (H83.size + 1) := Nx.new hm0.size
              have nx155 : Nx 0 H69.size (H83.size + 1) := Nx.new hcm22.size
              have nx156 : Nx 0 H83.size (H83.size + 1) := Nx.new hq22.size
              replace mx := mx.nw hs87
              replace hl := hl.nw hs87
              replace hx := fun x hx0 => (hx x hx0).nw hs87
              replace hl2 := hl2.nw hs87
              replace hx2 := fun x hx0 => (hx2 x hx0).nw hs87
              replace hpk := hpk.nw hs87
              replace hm := hm.nw hs87
              replace hxm := fun x hx_ => (hxm x hx_).nw hs87
              replace hm2 := hm2.nw hs87
              replace hxm2 := fun x hx_ => (hxm2 x hx_).nw hs87
              replace hw42 := hw42.nw hs87
              replace hx42 := fun x hx_ => (hx42 x hx_).nw hs87
              replace hlg := hlg.nw hs87
              replace hf := hf.nw hs87
              replace pt85 := pt85.nw hs87
              replace ow88 := ow88.nw hs87
              replace hm0 := hm0.tr hs87
              replace hcm22 := hcm22.trN hs87
              replace hq22 := hq22.trN hs87
              have hz13 := hs87.size
              refine ⟨.inr hq22, LH.narrow (SH2 := fun Hq => Mo (Ms [k83, (H83.size + 1)]) H87 Hq) (fun Hq hq => hq22.trL hq (MIL.cons (MI.app (MI.root (by simp)) (nx137) (Nat.le_refl _)) (MIL.cons (MI.app MI.z (nx156) (Nat.le_refl _)) MIL.nil))) ?_⟩
              have hq22 : Mo (Ms [k83, (H83.size + 1)]) H87 H87 := Mo.refl _ _
              have nx157 := Nx.refl k83 H87.size
              have nx158 := Nx.refl (H83.size + 1) H87.size
              refine LH.one (i := 7) (by kernel_rfl) ?_
              refine LO.z rfl (Z.apnd ow88 nw87.rd rfl inf22 rfl rfl (by simp only [List.length_singleton]; omega) (by simp only [List.length_singleton]; omega)) (Wd.u rfl) rfl rfl (fun v88 H88 r88 => ?_)
              obtain ⟨k88, ow88, hk88, hs88⟩ := r88
              replace hk88 : Nx k83 H87.size k88 := hk88
              replace hs88 := hs88.md
              have df159 := DF.app (df119) (bf_mx.mono hm0.size) hk88
              have df160 := DF.app (df120) (bf_hl.mono hm0.size) hk88
              have df161 := DF.app (df121) (bf_hx.mono hm0.size) hk88
              have df162 := DF.app (df122) (bf_hl2.mono hm0.size) hk88
              have df163 := DF.app (df123) (bf_hx2.mono hm0.size) hk88
              have df164 := DF.app (df124) (bf_hpk.mono hm0.size) hk88
              have df165 := DF.app (df125) (bf_hm.mono (by omega)) hk88
              have df166 := DF.app (df126) (bf_hxm.mono (by omega)) hk88
              have df167 := DF.app (df127) (bf_hm2.mono (by omega)) hk88
              have df168 := DF.app (df128) (bf_hxm2.mono (by omega)) hk88
              have df169 := DF.app (df129) (bf_hw42.mono (by omega)) hk88
              have df170 := DF.app (df130) (bf_hx42.mono (by omega)) hk88
              have dj171 : Dj ((lb42 + 1)) k88 := Dj.app (dj131) hlg.le hk88
              have dj172 : DL k88 Ki := DL.app2 (dj132) hf.bk hk88
              have df173 := DF.app (df133) (bf_pt85.mono (by omega)) hk88
              have dj174 : Dj (H83.size + 1) k88 := Dj.app (dj153.symm) nw87.le hk88
              have nx175 : Nx 0 H0.size k88 := Nx.tr (nx134) hk88 hm0.size
              have nx176 : Nx 0 H69.size k88 := Nx.tr (nx135) hk88 hcm22.size
              have nx177 : Nx k83 H87.size k88 := Nx.tr (nx157) hk88 hq22.size
              replace mx := mx.upL hs88 (DFL.cons df119 DFL.nil)
              replace hl := hl.upL hs88 (DFL.cons df120 DFL.nil)
              replace hx := fun x hx0 => (hx x hx0).upL hs88 (DFL.cons df121 DFL.nil)
              replace hl2 := hl2.upL hs88 (DFL.cons df122 DFL.nil)
              replace hx2 := fun x hx0 => (hx2 x hx0).upL hs88 (DFL.cons df123 DFL.nil)
              replace hpk := hpk.upL hs88 (DFL.cons df124 DFL.nil)
              replace hm := hm.upL hs88 (DFL.cons df125 DFL.nil)
              replace hxm := fun x hx_ => (hxm x hx_).upL hs88 (DFL.cons df126 DFL.nil)
              replace hm2 := hm2.upL hs88 (DFL.cons df127 DFL.nil)
              replace hxm2 := fun x hx_ => (hxm2 x hx_).upL hs88 (DFL.cons df128 DFL.nil)
              replace hw42 := hw42.upL hs88 (DFL.cons df129 DFL.nil)
              replace hx42 := fun x hx_ => (hx42 x hx_).upL hs88 (DFL.cons df130 DFL.nil)
              replace hlg := hlg.upL hs88 (DL.cons dj131 DL.nil)
              replace hf := hf.upL hs88 (DKL.cons dj132 DKL.nil)
              replace pt85 := pt85.upL hs88 (DFL.cons df133 DFL.nil)
              replace nw87 := nw87.upL hs88 (DL.cons dj153.symm DL.nil)
              replace hm0 := (Mo.trL (ks := []) (hm0.mdn []) hs88 (MIL.cons (MI.app MI.z (nx134) (Nat.le_refl _)) MIL.nil)).nil
              replace hcm22 := hcm22.trL hs88 (MIL.cons (MI.app MI.z (nx135) (Nat.le_refl _)) MIL.nil)
              replace hq22 := hq22.trL hs88 (MIL.cons (MI.app (MI.root (by simp)) (nx157) (Nat.le_refl _)) MIL.nil)
              have hz14 := hs88.size
              have hle_ow88 := ow88.le
              refine ⟨.inr hq22, LH.narrow (SH2 := fun Hq => Mo (Ms [k88, (H83.size + 1)]) H88 Hq) (fun Hq hq => hq22.trL hq (MIL.cons (MI.app (MI.root (by simp)) (nx177) (Nat.le_refl _)) (MIL.cons (MI.app (MI.root (by simp)) (nx158) (Nat.le_refl _)) MIL.nil))) ?_⟩
              have hq22 : Mo (Ms [k88, (H83.size + 1)]) H88 H88 := Mo.refl _ _
              have nx178 := Nx.refl k88 H88.size
              have nx179 := Nx.refl (H83.size + 1) H88.size
              refine LH.take 8 (by kernel_rfl) rfl (by kernel_rfl) (by kernel_rfl) (by kernel_rfl) (fun Hq hq => Y.assign rfl rfl) (Wd.u rfl) rfl rfl hq22 ?_
              refine LH.done (by kernel_rfl) ?_
              obtain ⟨s88, rfl⟩ : ∃ s : SV, v88 = s.v := ⟨toSV v88, ow88.sv.symm⟩
              refine hK27 _ _ ?_
              refine CW.seq (fun K28 hK28 hE28 => ?_)
              refine CW.region ?_
              refine LR.v (Y.move rfl rfl) (Wd.u rfl) rfl rfl ?_
              refine LR.v (Y.move rfl rfl) (Wd.u rfl) rfl rfl ?_
              refine LR.e (g := fun ad => .pointer (some ad)) (Y.indexAddrF hm2 (0) rfl Tryz.runUnderlying22 Tryz.sizeOf34 rfl rfl (by first | rfl | omega) (by first | omega | (simp; omega) | (simp; done))) (Wd.u rfl) rfl rfl (fun ad91 pt91 => ?_)
              have bf_pt91 := bf_hm2
              refine LR.v (Y.load1 pt91.pt rfl Tryz.isAgg34 rfl) (Wd.u rfl) rfl rfl ?_
              -- call (*selvage/wal.Log).Append
              refine LR.call rfl Tryz.call10 rfl (Wd.u rfl) rfl rfl (wapp_ct mx_ Ki g69 b31 (Di.stop k) lb42 [100, 47, 106] m.length false m2[0].1 m2[0].2 _ _ w0 _ hf mx (bf_mx.mono (by omega)) (df36) hlg (dj62) (df49) (hxm2 m2[0] (List.getElem_mem hm20)) (bf_hxm2.mono (by omega)) (df45) (df58) (by omega) (by decide) hS69 (by omega) (by omega)) (fun v93 H93 r93 => ?_)
              have ql180 := hlg.le
              have ql181 := hf.bk
              have ql182 := ow88.le
              obtain ⟨Q93, g93, rfl, hf, hkd93, hlg, dl293, hs93⟩ := r93
              have df183 := DFL.appK (df36) (bf_mx.mono hm0.size) hkd93
              have df184 := DFL.appK (df37) (bf_hl.mono hm0.size) hkd93
              have df185 := DFL.appK (df38) (bf_hx.mono hm0.size) hkd93
              have df186 := DFL.appK (df39) (bf_hl2.mono hm0.size) hkd93
              have df187 := DFL.appK (df40) (bf_hx2.mono hm0.size) hkd93
              have df188 := DFL.appK (df41) (bf_hpk.mono hm0.size) hkd93
              have df189 := DFL.appK (df42) (bf_hm.mono (by omega)) hkd93
              have df190 := DFL.appK (df43) (bf_hxm.mono (by omega)) hkd93
              have df191 := DFL.appK (df44) (bf_hm2.mono (by omega)) hkd93
              have df192 := DFL.appK (df45) (bf_hxm2.mono (by omega)) hkd93
              have df193 := DFL.appK (df46) (bf_hw42.mono (by omega)) hkd93
              have df194 := DFL.appK (df47) (bf_hx42.mono (by omega)) hkd93
              have dj195 : DL ((lb42 + 1)) Q93 := DL.appK (dj62) ql180 hkd93
              have dj196 : DL k88 Q93 := DL.appK (dj172) ql182 hkd93
              have df197 := DFL.appK (df44) (bf_pt91.mono (by omega)) hkd93
              have nx198 : NxK [] H0.size Q93 := NxK.tr (nx48) hkd93 hm0.size
              have nx199 : NxK Ki H69.size Q93 := NxK.tr (nx_hcm22_hf) hkd93 hcm22.size
              replace mx := mx.upL hs93 (DFL.app df36 (DFL.cons df49 DFL.nil))
              replace hl := hl.upL hs93 (DFL.app df37 (DFL.cons df50 DFL.nil))
              replace hx := fun x hx0 => (hx x hx0).upL hs93 (DFL.app df38 (DFL.cons df51 DFL.nil))
              replace hl2 := hl2.upL hs93 (DFL.app df39 (DFL.cons df52 DFL.nil))
              replace hx2 := fun x hx0 => (hx2 x hx0).upL hs93 (DFL.app df40 (DFL.cons df53 DFL.nil))
              replace hpk := hpk.upL hs93 (DFL.app df41 (DFL.cons df54 DFL.nil))
              replace hm := hm.upL hs93 (DFL.app df42 (DFL.cons df55 DFL.nil))
              replace hxm := fun x hx_ => (hxm x hx_).upL hs93 (DFL.app df43 (DFL.cons df56 DFL.nil))
              replace hm2 := hm2.upL hs93 (DFL.app df44 (DFL.cons df57 DFL.nil))
              replace hxm2 := fun x hx_ => (hxm2 x hx_).upL hs93 (DFL.app df45 (DFL.cons df58 DFL.nil))
              replace hw42 := hw42.upL hs93 (DFL.app df46 (DFL.cons df59 DFL.nil))
              replace hx42 := fun x hx_ => (hx42 x hx_).upL hs93 (DFL.app df47 (DFL.cons df60 DFL.nil))
              replace ow88 := ow88.upL hs93 (DL.app dj172 (DL.cons dj171.symm DL.nil))
              replace pt91 := pt91.upL hs93 (DFL.app df44 (DFL.cons df57 DFL.nil))
              replace hm0 := (Mo.trL (ks := []) (hm0.mdn []) hs93 (MIL.app (MIL.ofK0 (nx48)) (MIL.cons (MI.app MI.z (nx61) (Nat.le_refl _)) MIL.nil))).nil
              replace hcm22 := hcm22.trL hs93 (MIL.app (MIL.ofK (nx_hcm22_hf) (by intro k hk; simp [hk])) (MIL.cons (MI.app (MI.root (by simp)) (nx_hcm22_hlg) (Nat.le_refl _)) MIL.nil))
              have hz15 := hs93.size
              have hbk_hf := hf.bk
              have hsa := app_safe (r := m2[0].2) hflk hfl2 (by decide) (by omega) (by omega)
              rw [hmk] at hsa
              obtain ⟨as1, as2⟩ := hsa
              have hB93 := bs_app2 hS69 [100, 47, 106] m.length false m2[0].2 (M := 200008) (fl_rd hflk)
              have hmw : recs (m ++ [m2[0]]) = recs m ++ [m2[0].2] := by simp [recs]
              have hwm : ∀ r ∈ recs (m ++ [m2[0]]), r.length ≤ 1048576 := fun r h => by rw [hmw] at h; rcases List.mem_append.1 h with h | h; exact hmm r h; rw [List.mem_singleton.1 h]; omega
              have hWx : ∀ x ∈ m ++ [m2[0]], Rd (fun b => ((H24.size ≤ b ∧ b < H27.size) ∨ (H27.size ≤ b ∧ b < H29.size)) ∨ b + 1 = k88) H93 fB 1 x.1.v x.2 := fun x h => by rcases List.mem_append.1 h with h | h; exact (hxm x h).imp (fun b _ h => .inl (.inl h)); rw [List.mem_singleton.1 h]; exact (hxm2 m2[0] (List.getElem_mem hm20)).imp (fun b _ h => .inl (.inr h))
              have hbw : BF (fun b => ((H24.size ≤ b ∧ b < H27.size) ∨ (H27.size ≤ b ∧ b < H29.size)) ∨ b + 1 = k88) H93.size := fun b h => h.elim (fun h => h.elim (fun h => by omega) (fun h => by omega)) (fun h => by have := ow88.le; omega)
              have hdw : DFL (fun b => ((H24.size ≤ b ∧ b < H27.size) ∨ (H27.size ≤ b ∧ b < H29.size)) ∨ b + 1 = k88) Q93 := fun j hj b h => h.elim (fun h => h.elim (fun h => (df189) j hj b h) (fun h => (df191) j hj b h)) (fun h => DFL.of (dj196) j hj b h)
              refine LR.v (Y.eql rfl rfl rfl) (Wd.u rfl) rfl rfl ?_
              refine LR.nil ?_
              refine hK28 _ _ ?_
              refine CW.condp rfl (fun c94 => ?_) (fun c94 => ?_)
              ·
                refine CW.region ?_
                refine LR.v (Y.move rfl rfl) (Wd.u rfl) rfl rfl ?_
                refine LR.v (Y.assign rfl rfl) (Wd.u rfl) rfl rfl ?_
                refine LR.nil ?_
                refine QN.sub (hK22 (Q93, g93, (appD (Di.stop k) [100, 47, 106] m.length false m2[0].2).2.2.2, s88, s88, m ++ [m2[0]], m ++ [m2[0]], (fun b => ((H24.size ≤ b ∧ b < H27.size) ∨ (H27.size ≤ b ∧ b < H29.size)) ∨ b + 1 = k88), [ptr b31, Str [100, 47, 106], .int .i64 ((appD (Di.stop k) [100, 47, 106] m.length false m2[0].2).2.1 : Int), .bool (appD (Di.stop k) [100, 47, 106] m.length false m2[0].2).2.2.1]) _ ?_) ⟨rfl, rfl, (iv (by omega)), rfl, rfl, trivial⟩
                exact ⟨hf, (fun _ => ow88.rd.imp (fun b _ e => .inr e)), hWx, (fun _ => ow88.rd.imp (fun b _ e => .inr e)), hWx, hbw, hbw, hbw, hbw, hdw, hdw, hdw, hdw, hlg, by rw [hmw]; exact as2 (by omega), hwm, hwm, hB93.mono (by omega), nx199, nx_hcm22_hlg, dl293, hcm22⟩
              ·
                refine CW.skip ?_
                refine QN.sub (hK22 (Q93, g93, (appD (Di.stop k) [100, 47, 106] m.length false m2[0].2).2.2.2, t27, s88, m, m ++ [m2[0]], (fun b => ((H24.size ≤ b ∧ b < H27.size) ∨ (H27.size ≤ b ∧ b < H29.size)) ∨ b + 1 = k88), [ptr b31, Str [100, 47, 106], .int .i64 ((appD (Di.stop k) [100, 47, 106] m.length false m2[0].2).2.1 : Int), .bool (appD (Di.stop k) [100, 47, 106] m.length false m2[0].2).2.2.1]) _ ?_) ⟨rfl, rfl, (iv (by omega)), rfl, rfl, trivial⟩
                exact ⟨hf, (fun _ => hm.imp (fun b _ h => .inl (.inl h))), (fun x h => (hxm x h).imp (fun b _ h => .inl (.inl h))), (fun _ => ow88.rd.imp (fun b _ e => .inr e)), hWx, hbw, hbw, hbw, hbw, hdw, hdw, hdw, hdw, hlg, by rw [hmw]; exact as1, (fun r h => hmm r h), hwm, hB93.mono (by omega), nx199, nx_hcm22_hlg, dl293, hcm22⟩
            ·
              refine LO.z rfl (Z.litw _ ([m2[0]]) rfl inf22 rfl rfl rfl (by decide) (by decide) fP_len fP_one (rfl)) (Wd.u rfl) rfl rfl (fun v87 H87 r87 => ?_)
              obtain ⟨nw87, hs87, ob87, hH87⟩ := r87
              have hzs87 : H87.size = H81.size + 1 := by rw [hH87]; simp
              have df200 := (DF.new (bf_mx.mono hm0.size) : DF _ (H81.size + 1))
              have df201 := (DF.new (bf_hl.mono hm0.size) : DF _ (H81.size + 1))
              have df202 := (DF.new (bf_hx.mono hm0.size) : DF _ (H81.size + 1))
              have df203 := (DF.new (bf_hl2.mono hm0.size) : DF _ (H81.size + 1))
              have df204 := (DF.new (bf_hx2.mono hm0.size) : DF _ (H81.size + 1))
              have df205 := (DF.new (bf_hpk.mono hm0.size) : DF _ (H81.size + 1))
              have df206 := (DF.new (bf_hm.mono (by omega)) : DF _ (H81.size + 1))
              have df207 := (DF.new (bf_hxm.mono (by omega)) : DF _ (H81.size + 1))
              have df208 := (DF.new (bf_hm2.mono (by omega)) : DF _ (H81.size + 1))
              have df209 := (DF.new (bf_hxm2.mono (by omega)) : DF _ (H81.size + 1))
              have df210 := (DF.new (bf_hw42.mono (by omega)) : DF _ (H81.size + 1))
              have df211 := (DF.new (bf_hx42.mono (by omega)) : DF _ (H81.size + 1))
              have dj212 : Dj ((lb42 + 1)) (H81.size + 1) := Dj.new hlg.le
              have dj213 : DL (H81.size + 1) Ki := DL.newK hf.bk
              have df214 := (DF.new (bf_pt85.mono (by omega)) : DF _ (H81.size + 1))
              have dj215 : Dj (H69.size + 1) (H81.size + 1) := Dj.new ow88.le
              have nx216 : Nx 0 H0.size (H81.size + 1) := Nx.new hm0.size
              have nx217 : Nx 0 H69.size (H81.size + 1) := Nx.new hcm22.size
              have nx218 : Nx 0 H81.size (H81.size + 1) := Nx.new hq22.size
              replace mx := mx.nw hs87
              replace hl := hl.nw hs87
              replace hx := fun x hx0 => (hx x hx0).nw hs87
              replace hl2 := hl2.nw hs87
              replace hx2 := fun x hx0 => (hx2 x hx0).nw hs87
              replace hpk := hpk.nw hs87
              replace hm := hm.nw hs87
              replace hxm := fun x hx_ => (hxm x hx_).nw hs87
              replace hm2 := hm2.nw hs87
              replace hxm2 := fun x hx_ => (hxm2 x hx_).nw hs87
              replace hw42 := hw42.nw hs87
              replace hx42 := fun x hx_ => (hx42 x hx_).nw hs87
              replace hlg := hlg.nw hs87
              replace hf := hf.nw hs87
              replace pt85 := pt85.nw hs87
              replace ow88 := ow88.nw hs87
              replace hm0 := hm0.tr hs87
              replace hcm22 := hcm22.trN hs87
              replace hq22 := hq22.trN hs87
              have hz16 := hs87.size
              refine ⟨.inr hq22, LH.narrow (SH2 := fun Hq => Mo (Ms [(H69.size + 1), (H81.size + 1)]) H87 Hq) (fun Hq hq => hq22.trL hq (MIL.cons (MI.app (MI.root (by simp)) (nx118) (Nat.le_refl _)) (MIL.cons (MI.app MI.z (nx218) (Nat.le_refl _)) MIL.nil))) ?_⟩
              have hq22 : Mo (Ms [(H69.size + 1), (H81.size + 1)]) H87 H87 := Mo.refl _ _
              have nx219 := Nx.refl (H69.size + 1) H87.size
              have nx220 := Nx.refl (H81.size + 1) H87.size
              refine LH.one (i := 2) (by kernel_rfl) ?_
              refine LO.z rfl (Z.apnd ow88 hm rfl inf22 rfl rfl (by simp only [List.length_nil]; omega) (by simp only [List.length_nil]; omega)) (Wd.u rfl) rfl rfl (fun v83 H83 r83 => ?_)
              obtain ⟨k83, ow88, hk83, hs83⟩ := r83
              replace hk83 : Nx (H69.size + 1) H87.size k83 := hk83
              replace hs83 := hs83.md
              have df221 := DF.app (df100) (bf_mx.mono hm0.size) hk83
              have df222 := DF.app (df101) (bf_hl.mono hm0.size) hk83
              have df223 := DF.app (df102) (bf_hx.mono hm0.size) hk83
              have df224 := DF.app (df103) (bf_hl2.mono hm0.size) hk83
              have df225 := DF.app (df104) (bf_hx2.mono hm0.size) hk83
              have df226 := DF.app (df105) (bf_hpk.mono hm0.size) hk83
              have df227 := DF.app (df106) (bf_hm.mono (by omega)) hk83
              have df228 := DF.app (df107) (bf_hxm.mono (by omega)) hk83
              have df229 := DF.app (df108) (bf_hm2.mono (by omega)) hk83
              have df230 := DF.app (df109) (bf_hxm2.mono (by omega)) hk83
              have df231 := DF.app (df110) (bf_hw42.mono (by omega)) hk83
              have df232 := DF.app (df111) (bf_hx42.mono (by omega)) hk83
              have dj233 : Dj ((lb42 + 1)) k83 := Dj.app (dj112) hlg.le hk83
              have dj234 : DL k83 Ki := DL.app2 (dj113) hf.bk hk83
              have df235 := DF.app (df114) (bf_pt85.mono (by omega)) hk83
              have dj236 : Dj (H81.size + 1) k83 := Dj.app (dj215.symm) nw87.le hk83
              have nx237 : Nx 0 H0.size k83 := Nx.tr (nx115) hk83 hm0.size
              have nx238 : Nx 0 H69.size k83 := Nx.tr (nx116) hk83 hcm22.size
              have nx239 : Nx (H69.size + 1) H87.size k83 := Nx.tr (nx219) hk83 hq22.size
              replace mx := mx.upL hs83 (DFL.cons df100 DFL.nil)
              replace hl := hl.upL hs83 (DFL.cons df101 DFL.nil)
              replace hx := fun x hx0 => (hx x hx0).upL hs83 (DFL.cons df102 DFL.nil)
              replace hl2 := hl2.upL hs83 (DFL.cons df103 DFL.nil)
              replace hx2 := fun x hx0 => (hx2 x hx0).upL hs83 (DFL.cons df104 DFL.nil)
              replace hpk := hpk.upL hs83 (DFL.cons df105 DFL.nil)
              replace hm := hm.upL hs83 (DFL.cons df106 DFL.nil)
              replace hxm := fun x hx_ => (hxm x hx_).upL hs83 (DFL.cons df107 DFL.nil)
              replace hm2 := hm2.upL hs83 (DFL.cons df108 DFL.nil)
              replace hxm2 := fun x hx_ => (hxm2 x hx_).upL hs83 (DFL.cons df109 DFL.nil)
              replace hw42 := hw42.upL hs83 (DFL.cons df110 DFL.nil)
              replace hx42 := fun x hx_ => (hx42 x hx_).upL hs83 (DFL.cons df111 DFL.nil)
              replace hlg := hlg.upL hs83 (DL.cons dj112 DL.nil)
              replace hf := hf.upL hs83 (DKL.cons dj113 DKL.nil)
              replace pt85 := pt85.upL hs83 (DFL.cons df114 DFL.nil)
              replace nw87 := nw87.upL hs83 (DL.cons dj215.symm DL.nil)
              replace hm0 := (Mo.trL (ks := []) (hm0.mdn []) hs83 (MIL.cons (MI.app MI.z (nx115) (Nat.le_refl _)) MIL.nil)).nil
              replace hcm22 := hcm22.trL hs83 (MIL.cons (MI.app MI.z (nx116) (Nat.le_refl _)) MIL.nil)
              replace hq22 := hq22.trL hs83 (MIL.cons (MI.app (MI.root (by simp)) (nx219) (Nat.le_refl _)) MIL.nil)
              have hz17 := hs83.size
              have hle_ow88 := ow88.le
              rw [List.nil_append] at ow88
              refine ⟨.inr hq22, LH.narrow (SH2 := fun Hq => Mo (Ms [k83, (H81.size + 1)]) H83 Hq) (fun Hq hq => hq22.trL hq (MIL.cons (MI.app (MI.root (by simp)) (nx239) (Nat.le_refl _)) (MIL.cons (MI.app (MI.root (by simp)) (nx220) (Nat.le_refl _)) MIL.nil))) ?_⟩
              have hq22 : Mo (Ms [k83, (H81.size + 1)]) H83 H83 := Mo.refl _ _
              have nx240 := Nx.refl k83 H83.size
              have nx241 := Nx.refl (H81.size + 1) H83.size
              refine LH.one (i := 7) (by kernel_rfl) ?_
              refine LO.z rfl (Z.apnd ow88 nw87.rd rfl inf22 rfl rfl (by simp only [List.length_singleton]; omega) (by simp only [List.length_singleton]; omega)) (Wd.u rfl) rfl rfl (fun v88 H88 r88 => ?_)
              obtain ⟨k88, ow88, hk88, hs88⟩ := r88
              replace hk88 : Nx k83 H83.size k88 := hk88
              replace hs88 := hs88.md
              have df242 := DF.app (df221) (bf_mx.mono hm0.size) hk88
              have df243 := DF.app (df222) (bf_hl.mono hm0.size) hk88
              have df244 := DF.app (df223) (bf_hx.mono hm0.size) hk88
              have df245 := DF.app (df224) (bf_hl2.mono hm0.size) hk88
              have df246 := DF.app (df225) (bf_hx2.mono hm0.size) hk88
              have df247 := DF.app (df226) (bf_hpk.mono hm0.size) hk88
              have df248 := DF.app (df227) (bf_hm.mono (by omega)) hk88
              have df249 := DF.app (df228) (bf_hxm.mono (by omega)) hk88
              have df250 := DF.app (df229) (bf_hm2.mono (by omega)) hk88
              have df251 := DF.app (df230) (bf_hxm2.mono (by omega)) hk88
              have df252 := DF.app (df231) (bf_hw42.mono (by omega)) hk88
              have df253 := DF.app (df232) (bf_hx42.mono (by omega)) hk88
              have dj254 : Dj ((lb42 + 1)) k88 := Dj.app (dj233) hlg.le hk88
              have dj255 : DL k88 Ki := DL.app2 (dj234) hf.bk hk88
              have df256 := DF.app (df235) (bf_pt85.mono (by omega)) hk88
              have dj257 : Dj (H81.size + 1) k88 := Dj.app (dj236) nw87.le hk88
              have nx258 : Nx 0 H0.size k88 := Nx.tr (nx237) hk88 hm0.size
              have nx259 : Nx 0 H69.size k88 := Nx.tr (nx238) hk88 hcm22.size
              have nx260 : Nx k83 H83.size k88 := Nx.tr (nx240) hk88 hq22.size
              replace mx := mx.upL hs88 (DFL.cons df221 DFL.nil)
              replace hl := hl.upL hs88 (DFL.cons df222 DFL.nil)
              replace hx := fun x hx0 => (hx x hx0).upL hs88 (DFL.cons df223 DFL.nil)
              replace hl2 := hl2.upL hs88 (DFL.cons df224 DFL.nil)
              replace hx2 := fun x hx0 => (hx2 x hx0).upL hs88 (DFL.cons df225 DFL.nil)
              replace hpk := hpk.upL hs88 (DFL.cons df226 DFL.nil)
              replace hm := hm.upL hs88 (DFL.cons df227 DFL.nil)
              replace hxm := fun x hx_ => (hxm x hx_).upL hs88 (DFL.cons df228 DFL.nil)
              replace hm2 := hm2.upL hs88 (DFL.cons df229 DFL.nil)
              replace hxm2 := fun x hx_ => (hxm2 x hx_).upL hs88 (DFL.cons df230 DFL.nil)
              replace hw42 := hw42.upL hs88 (DFL.cons df231 DFL.nil)
              replace hx42 := fun x hx_ => (hx42 x hx_).upL hs88 (DFL.cons df232 DFL.nil)
              replace hlg := hlg.upL hs88 (DL.cons dj233 DL.nil)
              replace hf := hf.upL hs88 (DKL.cons dj234 DKL.nil)
              replace pt85 := pt85.upL hs88 (DFL.cons df235 DFL.nil)
              replace nw87 := nw87.upL hs88 (DL.cons dj236 DL.nil)
              replace hm0 := (Mo.trL (ks := []) (hm0.mdn []) hs88 (MIL.cons (MI.app MI.z (nx237) (Nat.le_refl _)) MIL.nil)).nil
              replace hcm22 := hcm22.trL hs88 (MIL.cons (MI.app MI.z (nx238) (Nat.le_refl _)) MIL.nil)
              replace hq22 := hq22.trL hs88 (MIL.cons (MI.app (MI.root (by simp)) (nx240) (Nat.le_refl _)) MIL.nil)
              have hz18 := hs88.size
              have hle_ow88 := ow88.le
              refine ⟨.inr hq22, LH.narrow (SH2 := fun Hq => Mo (Ms [k88, (H81.size + 1)]) H88 Hq) (fun Hq hq => hq22.trL hq (MIL.cons (MI.app (MI.root (by simp)) (nx260) (Nat.le_refl _)) (MIL.cons (MI.app (MI.root (by simp)) (nx241) (Nat.le_refl _)) MIL.nil))) ?_⟩
              have hq22 : Mo (Ms [k88, (H81.size + 1)]) H88 H88 := Mo.refl _ _
              have nx261 := Nx.refl k88 H88.size
              have nx262 := Nx.refl (H81.size + 1) H88.size
              refine LH.take 8 (by kernel_rfl) rfl (by kernel_rfl) (by kernel_rfl) (by kernel_rfl) (fun Hq hq => Y.assign rfl rfl) (Wd.u rfl) rfl rfl hq22 ?_
              refine LH.done (by kernel_rfl) ?_
              obtain ⟨s88, rfl⟩ : ∃ s : SV, v88 = s.v := ⟨toSV v88, ow88.sv.symm⟩
              refine hK27 _ _ ?_
              refine CW.seq (fun K29 hK29 hE29 => ?_)
              refine CW.region ?_
              refine LR.v (Y.move rfl rfl) (Wd.u rfl) rfl rfl ?_
              refine LR.v (Y.move rfl rfl) (Wd.u rfl) rfl rfl ?_
              refine LR.e (g := fun ad => .pointer (some ad)) (Y.indexAddrF hm2 (0) rfl Tryz.runUnderlying22 Tryz.sizeOf34 rfl rfl (by first | rfl | omega) (by first | omega | (simp; omega) | (simp; done))) (Wd.u rfl) rfl rfl (fun ad91 pt91 => ?_)
              have bf_pt91 := bf_hm2
              refine LR.v (Y.load1 pt91.pt rfl Tryz.isAgg34 rfl) (Wd.u rfl) rfl rfl ?_
              -- call (*selvage/wal.Log).Append
              refine LR.call rfl Tryz.call10 rfl (Wd.u rfl) rfl rfl (wapp_ct mx_ Ki g69 b31 (Di.stop k) lb42 [100, 47, 106] m.length false m2[0].1 m2[0].2 _ _ w0 _ hf mx (bf_mx.mono (by omega)) (df36) hlg (dj62) (df49) (hxm2 m2[0] (List.getElem_mem hm20)) (bf_hxm2.mono (by omega)) (df45) (df58) (by omega) (by decide) hS69 (by omega) (by omega)) (fun v93 H93 r93 => ?_)
              have ql263 := hlg.le
              have ql264 := hf.bk
              have ql265 := ow88.le
              obtain ⟨Q93, g93, rfl, hf, hkd93, hlg, dl293, hs93⟩ := r93
              have df266 := DFL.appK (df36) (bf_mx.mono hm0.size) hkd93
              have df267 := DFL.appK (df37) (bf_hl.mono hm0.size) hkd93
              have df268 := DFL.appK (df38) (bf_hx.mono hm0.size) hkd93
              have df269 := DFL.appK (df39) (bf_hl2.mono hm0.size) hkd93
              have df270 := DFL.appK (df40) (bf_hx2.mono hm0.size) hkd93
              have df271 := DFL.appK (df41) (bf_hpk.mono hm0.size) hkd93
              have df272 := DFL.appK (df42) (bf_hm.mono (by omega)) hkd93
              have df273 := DFL.appK (df43) (bf_hxm.mono (by omega)) hkd93
              have df274 := DFL.appK (df44) (bf_hm2.mono (by omega)) hkd93
              have df275 := DFL.appK (df45) (bf_hxm2.mono (by omega)) hkd93
              have df276 := DFL.appK (df46) (bf_hw42.mono (by omega)) hkd93
              have df277 := DFL.appK (df47) (bf_hx42.mono (by omega)) hkd93
              have dj278 : DL ((lb42 + 1)) Q93 := DL.appK (dj62) ql263 hkd93
              have dj279 : DL k88 Q93 := DL.appK (dj255) ql265 hkd93
              have df280 := DFL.appK (df44) (bf_pt91.mono (by omega)) hkd93
              have nx281 : NxK [] H0.size Q93 := NxK.tr (nx48) hkd93 hm0.size
              have nx282 : NxK Ki H69.size Q93 := NxK.tr (nx_hcm22_hf) hkd93 hcm22.size
              replace mx := mx.upL hs93 (DFL.app df36 (DFL.cons df49 DFL.nil))
              replace hl := hl.upL hs93 (DFL.app df37 (DFL.cons df50 DFL.nil))
              replace hx := fun x hx0 => (hx x hx0).upL hs93 (DFL.app df38 (DFL.cons df51 DFL.nil))
              replace hl2 := hl2.upL hs93 (DFL.app df39 (DFL.cons df52 DFL.nil))
              replace hx2 := fun x hx0 => (hx2 x hx0).upL hs93 (DFL.app df40 (DFL.cons df53 DFL.nil))
              replace hpk := hpk.upL hs93 (DFL.app df41 (DFL.cons df54 DFL.nil))
              replace hm := hm.upL hs93 (DFL.app df42 (DFL.cons df55 DFL.nil))
              replace hxm := fun x hx_ => (hxm x hx_).upL hs93 (DFL.app df43 (DFL.cons df56 DFL.nil))
              replace hm2 := hm2.upL hs93 (DFL.app df44 (DFL.cons df57 DFL.nil))
              replace hxm2 := fun x hx_ => (hxm2 x hx_).upL hs93 (DFL.app df45 (DFL.cons df58 DFL.nil))
              replace hw42 := hw42.upL hs93 (DFL.app df46 (DFL.cons df59 DFL.nil))
              replace hx42 := fun x hx_ => (hx42 x hx_).upL hs93 (DFL.app df47 (DFL.cons df60 DFL.nil))
              replace ow88 := ow88.upL hs93 (DL.app dj255 (DL.cons dj254.symm DL.nil))
              replace pt91 := pt91.upL hs93 (DFL.app df44 (DFL.cons df57 DFL.nil))
              replace hm0 := (Mo.trL (ks := []) (hm0.mdn []) hs93 (MIL.app (MIL.ofK0 (nx48)) (MIL.cons (MI.app MI.z (nx61) (Nat.le_refl _)) MIL.nil))).nil
              replace hcm22 := hcm22.trL hs93 (MIL.app (MIL.ofK (nx_hcm22_hf) (by intro k hk; simp [hk])) (MIL.cons (MI.app (MI.root (by simp)) (nx_hcm22_hlg) (Nat.le_refl _)) MIL.nil))
              have hz19 := hs93.size
              have hbk_hf := hf.bk
              have hsa := app_safe (r := m2[0].2) hflk hfl2 (by decide) (by omega) (by omega)
              rw [hmk] at hsa
              obtain ⟨as1, as2⟩ := hsa
              have hB93 := bs_app2 hS69 [100, 47, 106] m.length false m2[0].2 (M := 200008) (fl_rd hflk)
              have hmw : recs (m ++ [m2[0]]) = recs m ++ [m2[0].2] := by simp [recs]
              have hwm : ∀ r ∈ recs (m ++ [m2[0]]), r.length ≤ 1048576 := fun r h => by rw [hmw] at h; rcases List.mem_append.1 h with h | h; exact hmm r h; rw [List.mem_singleton.1 h]; omega
              have hWx : ∀ x ∈ m ++ [m2[0]], Rd (fun b => ((H24.size ≤ b ∧ b < H27.size) ∨ (H27.size ≤ b ∧ b < H29.size)) ∨ b + 1 = k88) H93 fB 1 x.1.v x.2 := fun x h => by rcases List.mem_append.1 h with h | h; exact (hxm x h).imp (fun b _ h => .inl (.inl h)); rw [List.mem_singleton.1 h]; exact (hxm2 m2[0] (List.getElem_mem hm20)).imp (fun b _ h => .inl (.inr h))
              have hbw : BF (fun b => ((H24.size ≤ b ∧ b < H27.size) ∨ (H27.size ≤ b ∧ b < H29.size)) ∨ b + 1 = k88) H93.size := fun b h => h.elim (fun h => h.elim (fun h => by omega) (fun h => by omega)) (fun h => by have := ow88.le; omega)
              have hdw : DFL (fun b => ((H24.size ≤ b ∧ b < H27.size) ∨ (H27.size ≤ b ∧ b < H29.size)) ∨ b + 1 = k88) Q93 := fun j hj b h => h.elim (fun h => h.elim (fun h => (df272) j hj b h) (fun h => (df274) j hj b h)) (fun h => DFL.of (dj279) j hj b h)
              refine LR.v (Y.eql rfl rfl rfl) (Wd.u rfl) rfl rfl ?_
              refine LR.nil ?_
              refine hK29 _ _ ?_
              refine CW.condp rfl (fun c94 => ?_) (fun c94 => ?_)
              ·
                refine CW.region ?_
                refine LR.v (Y.move rfl rfl) (Wd.u rfl) rfl rfl ?_
                refine LR.v (Y.assign rfl rfl) (Wd.u rfl) rfl rfl ?_
                refine LR.nil ?_
                refine QN.sub (hK22 (Q93, g93, (appD (Di.stop k) [100, 47, 106] m.length false m2[0].2).2.2.2, s88, s88, m ++ [m2[0]], m ++ [m2[0]], (fun b => ((H24.size ≤ b ∧ b < H27.size) ∨ (H27.size ≤ b ∧ b < H29.size)) ∨ b + 1 = k88), [ptr b31, Str [100, 47, 106], .int .i64 ((appD (Di.stop k) [100, 47, 106] m.length false m2[0].2).2.1 : Int), .bool (appD (Di.stop k) [100, 47, 106] m.length false m2[0].2).2.2.1]) _ ?_) ⟨rfl, rfl, (iv (by omega)), rfl, rfl, trivial⟩
                exact ⟨hf, (fun _ => ow88.rd.imp (fun b _ e => .inr e)), hWx, (fun _ => ow88.rd.imp (fun b _ e => .inr e)), hWx, hbw, hbw, hbw, hbw, hdw, hdw, hdw, hdw, hlg, by rw [hmw]; exact as2 (by omega), hwm, hwm, hB93.mono (by omega), nx282, nx_hcm22_hlg, dl293, hcm22⟩
              ·
                refine CW.skip ?_
                refine QN.sub (hK22 (Q93, g93, (appD (Di.stop k) [100, 47, 106] m.length false m2[0].2).2.2.2, t27, s88, m, m ++ [m2[0]], (fun b => ((H24.size ≤ b ∧ b < H27.size) ∨ (H27.size ≤ b ∧ b < H29.size)) ∨ b + 1 = k88), [ptr b31, Str [100, 47, 106], .int .i64 ((appD (Di.stop k) [100, 47, 106] m.length false m2[0].2).2.1 : Int), .bool (appD (Di.stop k) [100, 47, 106] m.length false m2[0].2).2.2.1]) _ ?_) ⟨rfl, rfl, (iv (by omega)), rfl, rfl, trivial⟩
                exact ⟨hf, (fun _ => hm.imp (fun b _ h => .inl (.inl h))), (fun x h => (hxm x h).imp (fun b _ h => .inl (.inl h))), (fun _ => ow88.rd.imp (fun b _ e => .inr e)), hWx, hbw, hbw, hbw, hbw, hdw, hdw, hdw, hdw, hlg, by rw [hmw]; exact as1, (fun r h => hmm r h), hwm, hB93.mono (by omega), nx282, nx_hcm22_hlg, dl293, hcm22⟩
          ·
            refine LO.z rfl (Z.litw _ ([m2[0]]) rfl inf22 rfl rfl rfl (by decide) (by decide) fP_len fP_one (rfl)) (Wd.u rfl) rfl rfl (fun v87 H87 r87 => ?_)
            obtain ⟨nw87, hs87, ob87, hH87⟩ := r87
            have hzs87 : H87.size = H69.size + 1 := by rw [hH87]; simp
            have df283 := (DF.new (bf_mx.mono hm0.size) : DF _ (H69.size + 1))
            have df284 := (DF.new (bf_hl.mono hm0.size) : DF _ (H69.size + 1))
            have df285 := (DF.new (bf_hx.mono hm0.size) : DF _ (H69.size + 1))
            have df286 := (DF.new (bf_hl2.mono hm0.size) : DF _ (H69.size + 1))
            have df287 := (DF.new (bf_hx2.mono hm0.size) : DF _ (H69.size + 1))
            have df288 := (DF.new (bf_hpk.mono hm0.size) : DF _ (H69.size + 1))
            have df289 := (DF.new (bf_hm.mono (by omega)) : DF _ (H69.size + 1))
            have df290 := (DF.new (bf_hxm.mono (by omega)) : DF _ (H69.size + 1))
            have df291 := (DF.new (bf_hm2.mono (by omega)) : DF _ (H69.size + 1))
            have df292 := (DF.new (bf_hxm2.mono (by omega)) : DF _ (H69.size + 1))
            have df293 := (DF.new (bf_hw42.mono (by omega)) : DF _ (H69.size + 1))
            have df294 := (DF.new (bf_hx42.mono (by omega)) : DF _ (H69.size + 1))
            have dj295 : Dj ((lb42 + 1)) (H69.size + 1) := Dj.new hlg.le
            have dj296 : DL (H69.size + 1) Ki := DL.newK hf.bk
            have df297 := (DF.new (bf_pt85.mono (by omega)) : DF _ (H69.size + 1))
            have nx298 : Nx 0 H0.size (H69.size + 1) := Nx.new hm0.size
            have nx299 : Nx 0 H69.size (H69.size + 1) := Nx.new hcm22.size
            have nx300 : Nx 0 H69.size (H69.size + 1) := Nx.new hq22.size
            replace mx := mx.nw hs87
            replace hl := hl.nw hs87
            replace hx := fun x hx0 => (hx x hx0).nw hs87
            replace hl2 := hl2.nw hs87
            replace hx2 := fun x hx0 => (hx2 x hx0).nw hs87
            replace hpk := hpk.nw hs87
            replace hm := hm.nw hs87
            replace hxm := fun x hx_ => (hxm x hx_).nw hs87
            replace hm2 := hm2.nw hs87
            replace hxm2 := fun x hx_ => (hxm2 x hx_).nw hs87
            replace hw42 := hw42.nw hs87
            replace hx42 := fun x hx_ => (hx42 x hx_).nw hs87
            replace hlg := hlg.nw hs87
            replace hf := hf.nw hs87
            replace pt85 := pt85.nw hs87
            replace hm0 := hm0.tr hs87
            replace hcm22 := hcm22.trN hs87
            replace hq22 := hq22.tr hs87
            have hz20 := hs87.size
            refine ⟨.inr hq22, LH.narrow (SH2 := fun Hq => Mo (Ms [(H69.size + 1)]) H87 Hq) (fun Hq hq => (Mo.trL (ks := []) (hq22.mdn []) hq (MIL.cons (MI.app MI.z (nx300) (Nat.le_refl _)) MIL.nil)).nil) ?_⟩
            have hq22 : Mo (Ms [(H69.size + 1)]) H87 H87 := Mo.refl _ _
            have nx301 := Nx.refl (H69.size + 1) H87.size
            refine LH.one (i := 0) (by kernel_rfl) ?_
            refine LO.z rfl (Z.litw _ (([] : List (SV × Rec))) rfl inf22 rfl rfl rfl (by decide) (by decide) fP_len fP_one (rfl)) (Wd.u rfl) rfl rfl (fun v81 H81 r81 => ?_)
            obtain ⟨ow88, hs81, ob81, hH81⟩ := r81
            have hzs81 : H81.size = H87.size + 1 := by rw [hH81]; simp
            have df302 := (DF.new (bf_mx.mono hm0.size) : DF _ (H87.size + 1))
            have df303 := (DF.new (bf_hl.mono hm0.size) : DF _ (H87.size + 1))
            have df304 := (DF.new (bf_hx.mono hm0.size) : DF _ (H87.size + 1))
            have df305 := (DF.new (bf_hl2.mono hm0.size) : DF _ (H87.size + 1))
            have df306 := (DF.new (bf_hx2.mono hm0.size) : DF _ (H87.size + 1))
            have df307 := (DF.new (bf_hpk.mono hm0.size) : DF _ (H87.size + 1))
            have df308 := (DF.new (bf_hm.mono (by omega)) : DF _ (H87.size + 1))
            have df309 := (DF.new (bf_hxm.mono (by omega)) : DF _ (H87.size + 1))
            have df310 := (DF.new (bf_hm2.mono (by omega)) : DF _ (H87.size + 1))
            have df311 := (DF.new (bf_hxm2.mono (by omega)) : DF _ (H87.size + 1))
            have df312 := (DF.new (bf_hw42.mono (by omega)) : DF _ (H87.size + 1))
            have df313 := (DF.new (bf_hx42.mono (by omega)) : DF _ (H87.size + 1))
            have dj314 : Dj ((lb42 + 1)) (H87.size + 1) := Dj.new hlg.le
            have dj315 : DL (H87.size + 1) Ki := DL.newK hf.bk
            have df316 := (DF.new (bf_pt85.mono (by omega)) : DF _ (H87.size + 1))
            have dj317 : Dj (H69.size + 1) (H87.size + 1) := Dj.new nw87.le
            have nx318 : Nx 0 H0.size (H87.size + 1) := Nx.new hm0.size
            have nx319 : Nx 0 H69.size (H87.size + 1) := Nx.new hcm22.size
            have nx320 : Nx 0 H87.size (H87.size + 1) := Nx.new hq22.size
            replace mx := mx.nw hs81
            replace hl := hl.nw hs81
            replace hx := fun x hx0 => (hx x hx0).nw hs81
            replace hl2 := hl2.nw hs81
            replace hx2 := fun x hx0 => (hx2 x hx0).nw hs81
            replace hpk := hpk.nw hs81
            replace hm := hm.nw hs81
            replace hxm := fun x hx_ => (hxm x hx_).nw hs81
            replace hm2 := hm2.nw hs81
            replace hxm2 := fun x hx_ => (hxm2 x hx_).nw hs81
            replace hw42 := hw42.nw hs81
            replace hx42 := fun x hx_ => (hx42 x hx_).nw hs81
            replace hlg := hlg.nw hs81
            replace hf := hf.nw hs81
            replace pt85 := pt85.nw hs81
            replace nw87 := nw87.nw hs81
            replace hm0 := hm0.tr hs81
            replace hcm22 := hcm22.trN hs81
            replace hq22 := hq22.trN hs81
            have hz21 := hs81.size
            refine ⟨.inr hq22, LH.narrow (SH2 := fun Hq => Mo (Ms [(H69.size + 1), (H87.size + 1)]) H81 Hq) (fun Hq hq => hq22.trL hq (MIL.cons (MI.app (MI.root (by simp)) (nx301) (Nat.le_refl _)) (MIL.cons (MI.app MI.z (nx320) (Nat.le_refl _)) MIL.nil))) ?_⟩
            have hq22 : Mo (Ms [(H69.size + 1), (H87.size + 1)]) H81 H81 := Mo.refl _ _
            have nx321 := Nx.refl (H69.size + 1) H81.size
            have nx322 := Nx.refl (H87.size + 1) H81.size
            refine LH.one (i := 2) (by kernel_rfl) ?_
            refine LO.z rfl (Z.apnd ow88 hm rfl inf22 rfl rfl (by simp only [List.length_nil]; omega) (by simp only [List.length_nil]; omega)) (Wd.u rfl) rfl rfl (fun v83 H83 r83 => ?_)
            obtain ⟨k83, ow88, hk83, hs83⟩ := r83
            replace hk83 : Nx (H87.size + 1) H81.size k83 := hk83
            replace hs83 := hs83.md
            have df323 := DF.app (df302) (bf_mx.mono hm0.size) hk83
            have df324 := DF.app (df303) (bf_hl.mono hm0.size) hk83
            have df325 := DF.app (df304) (bf_hx.mono hm0.size) hk83
            have df326 := DF.app (df305) (bf_hl2.mono hm0.size) hk83
            have df327 := DF.app (df306) (bf_hx2.mono hm0.size) hk83
            have df328 := DF.app (df307) (bf_hpk.mono hm0.size) hk83
            have df329 := DF.app (df308) (bf_hm.mono (by omega)) hk83
            have df330 := DF.app (df309) (bf_hxm.mono (by omega)) hk83
            have df331 := DF.app (df310) (bf_hm2.mono (by omega)) hk83
            have df332 := DF.app (df311) (bf_hxm2.mono (by omega)) hk83
            have df333 := DF.app (df312) (bf_hw42.mono (by omega)) hk83
            have df334 := DF.app (df313) (bf_hx42.mono (by omega)) hk83
            have dj335 : Dj ((lb42 + 1)) k83 := Dj.app (dj314) hlg.le hk83
            have dj336 : DL k83 Ki := DL.app2 (dj315) hf.bk hk83
            have df337 := DF.app (df316) (bf_pt85.mono (by omega)) hk83
            have dj338 : Dj (H69.size + 1) k83 := Dj.app (dj317) nw87.le hk83
            have nx339 : Nx 0 H0.size k83 := Nx.tr (nx318) hk83 hm0.size
            have nx340 : Nx 0 H69.size k83 := Nx.tr (nx319) hk83 hcm22.size
            have nx341 : Nx (H87.size + 1) H81.size k83 := Nx.tr (nx322) hk83 hq22.size
            replace mx := mx.upL hs83 (DFL.cons df302 DFL.nil)
            replace hl := hl.upL hs83 (DFL.cons df303 DFL.nil)
            replace hx := fun x hx0 => (hx x hx0).upL hs83 (DFL.cons df304 DFL.nil)
            replace hl2 := hl2.upL hs83 (DFL.cons df305 DFL.nil)
            replace hx2 := fun x hx0 => (hx2 x hx0).upL hs83 (DFL.cons df306 DFL.nil)
            replace hpk := hpk.upL hs83 (DFL.cons df307 DFL.nil)
            replace hm := hm.upL hs83 (DFL.cons df308 DFL.nil)
            replace hxm := fun x hx_ => (hxm x hx_).upL hs83 (DFL.cons df309 DFL.nil)
            replace hm2 := hm2.upL hs83 (DFL.cons df310 DFL.nil)
            replace hxm2 := fun x hx_ => (hxm2 x hx_).upL hs83 (DFL.cons df311 DFL.nil)
            replace hw42 := hw42.upL hs83 (DFL.cons df312 DFL.nil)
            replace hx42 := fun x hx_ => (hx42 x hx_).upL hs83 (DFL.cons df313 DFL.nil)
            replace hlg := hlg.upL hs83 (DL.cons dj314 DL.nil)
            replace hf := hf.upL hs83 (DKL.cons dj315 DKL.nil)
            replace pt85 := pt85.upL hs83 (DFL.cons df316 DFL.nil)
            replace nw87 := nw87.upL hs83 (DL.cons dj317 DL.nil)
            replace hm0 := (Mo.trL (ks := []) (hm0.mdn []) hs83 (MIL.cons (MI.app MI.z (nx318) (Nat.le_refl _)) MIL.nil)).nil
            replace hcm22 := hcm22.trL hs83 (MIL.cons (MI.app MI.z (nx319) (Nat.le_refl _)) MIL.nil)
            replace hq22 := hq22.trL hs83 (MIL.cons (MI.app (MI.root (by simp)) (nx322) (Nat.le_refl _)) MIL.nil)
            have hz22 := hs83.size
            have hle_ow88 := ow88.le
            rw [List.nil_append] at ow88
            refine ⟨.inr hq22, LH.narrow (SH2 := fun Hq => Mo (Ms [(H69.size + 1), k83]) H83 Hq) (fun Hq hq => hq22.trL hq (MIL.cons (MI.app (MI.root (by simp)) (nx321) (Nat.le_refl _)) (MIL.cons (MI.app (MI.root (by simp)) (nx341) (Nat.le_refl _)) MIL.nil))) ?_⟩
            have hq22 : Mo (Ms [(H69.size + 1), k83]) H83 H83 := Mo.refl _ _
            have nx342 := Nx.refl (H69.size + 1) H83.size
            have nx343 := Nx.refl k83 H83.size
            refine LH.one (i := 7) (by kernel_rfl) ?_
            refine LO.z rfl (Z.apnd ow88 nw87.rd rfl inf22 rfl rfl (by simp only [List.length_singleton]; omega) (by simp only [List.length_singleton]; omega)) (Wd.u rfl) rfl rfl (fun v88 H88 r88 => ?_)
            obtain ⟨k88, ow88, hk88, hs88⟩ := r88
            replace hk88 : Nx k83 H83.size k88 := hk88
            replace hs88 := hs88.md
            have df344 := DF.app (df323) (bf_mx.mono hm0.size) hk88
            have df345 := DF.app (df324) (bf_hl.mono hm0.size) hk88
            have df346 := DF.app (df325) (bf_hx.mono hm0.size) hk88
            have df347 := DF.app (df326) (bf_hl2.mono hm0.size) hk88
            have df348 := DF.app (df327) (bf_hx2.mono hm0.size) hk88
            have df349 := DF.app (df328) (bf_hpk.mono hm0.size) hk88
            have df350 := DF.app (df329) (bf_hm.mono (by omega)) hk88
            have df351 := DF.app (df330) (bf_hxm.mono (by omega)) hk88
            have df352 := DF.app (df331) (bf_hm2.mono (by omega)) hk88
            have df353 := DF.app (df332) (bf_hxm2.mono (by omega)) hk88
            have df354 := DF.app (df333) (bf_hw42.mono (by omega)) hk88
            have df355 := DF.app (df334) (bf_hx42.mono (by omega)) hk88
            have dj356 : Dj ((lb42 + 1)) k88 := Dj.app (dj335) hlg.le hk88
            have dj357 : DL k88 Ki := DL.app2 (dj336) hf.bk hk88
            have df358 := DF.app (df337) (bf_pt85.mono (by omega)) hk88
            have dj359 : Dj (H69.size + 1) k88 := Dj.app (dj338) nw87.le hk88
            have nx360 : Nx 0 H0.size k88 := Nx.tr (nx339) hk88 hm0.size
            have nx361 : Nx 0 H69.size k88 := Nx.tr (nx340) hk88 hcm22.size
            have nx362 : Nx k83 H83.size k88 := Nx.tr (nx343) hk88 hq22.size
            replace mx := mx.upL hs88 (DFL.cons df323 DFL.nil)
            replace hl := hl.upL hs88 (DFL.cons df324 DFL.nil)
            replace hx := fun x hx0 => (hx x hx0).upL hs88 (DFL.cons df325 DFL.nil)
            replace hl2 := hl2.upL hs88 (DFL.cons df326 DFL.nil)
            replace hx2 := fun x hx0 => (hx2 x hx0).upL hs88 (DFL.cons df327 DFL.nil)
            replace hpk := hpk.upL hs88 (DFL.cons df328 DFL.nil)
            replace hm := hm.upL hs88 (DFL.cons df329 DFL.nil)
            replace hxm := fun x hx_ => (hxm x hx_).upL hs88 (DFL.cons df330 DFL.nil)
            replace hm2 := hm2.upL hs88 (DFL.cons df331 DFL.nil)
            replace hxm2 := fun x hx_ => (hxm2 x hx_).upL hs88 (DFL.cons df332 DFL.nil)
            replace hw42 := hw42.upL hs88 (DFL.cons df333 DFL.nil)
            replace hx42 := fun x hx_ => (hx42 x hx_).upL hs88 (DFL.cons df334 DFL.nil)
            replace hlg := hlg.upL hs88 (DL.cons dj335 DL.nil)
            replace hf := hf.upL hs88 (DKL.cons dj336 DKL.nil)
            replace pt85 := pt85.upL hs88 (DFL.cons df337 DFL.nil)
            replace nw87 := nw87.upL hs88 (DL.cons dj338 DL.nil)
            replace hm0 := (Mo.trL (ks := []) (hm0.mdn []) hs88 (MIL.cons (MI.app MI.z (nx339) (Nat.le_refl _)) MIL.nil)).nil
            replace hcm22 := hcm22.trL hs88 (MIL.cons (MI.app MI.z (nx340) (Nat.le_refl _)) MIL.nil)
            replace hq22 := hq22.trL hs88 (MIL.cons (MI.app (MI.root (by simp)) (nx343) (Nat.le_refl _)) MIL.nil)
            have hz23 := hs88.size
            have hle_ow88 := ow88.le
            refine ⟨.inr hq22, LH.narrow (SH2 := fun Hq => Mo (Ms [(H69.size + 1), k88]) H88 Hq) (fun Hq hq => hq22.trL hq (MIL.cons (MI.app (MI.root (by simp)) (nx342) (Nat.le_refl _)) (MIL.cons (MI.app (MI.root (by simp)) (nx362) (Nat.le_refl _)) MIL.nil))) ?_⟩
            have hq22 : Mo (Ms [(H69.size + 1), k88]) H88 H88 := Mo.refl _ _
            have nx363 := Nx.refl (H69.size + 1) H88.size
            have nx364 := Nx.refl k88 H88.size
            refine LH.take 8 (by kernel_rfl) rfl (by kernel_rfl) (by kernel_rfl) (by kernel_rfl) (fun Hq hq => Y.assign rfl rfl) (Wd.u rfl) rfl rfl hq22 ?_
            refine LH.done (by kernel_rfl) ?_
            obtain ⟨s88, rfl⟩ : ∃ s : SV, v88 = s.v := ⟨toSV v88, ow88.sv.symm⟩
            refine hK27 _ _ ?_
            refine CW.seq (fun K30 hK30 hE30 => ?_)
            refine CW.region ?_
            refine LR.v (Y.move rfl rfl) (Wd.u rfl) rfl rfl ?_
            refine LR.v (Y.move rfl rfl) (Wd.u rfl) rfl rfl ?_
            refine LR.e (g := fun ad => .pointer (some ad)) (Y.indexAddrF hm2 (0) rfl Tryz.runUnderlying22 Tryz.sizeOf34 rfl rfl (by first | rfl | omega) (by first | omega | (simp; omega) | (simp; done))) (Wd.u rfl) rfl rfl (fun ad91 pt91 => ?_)
            have bf_pt91 := bf_hm2
            refine LR.v (Y.load1 pt91.pt rfl Tryz.isAgg34 rfl) (Wd.u rfl) rfl rfl ?_
            -- call (*selvage/wal.Log).Append
            refine LR.call rfl Tryz.call10 rfl (Wd.u rfl) rfl rfl (wapp_ct mx_ Ki g69 b31 (Di.stop k) lb42 [100, 47, 106] m.length false m2[0].1 m2[0].2 _ _ w0 _ hf mx (bf_mx.mono (by omega)) (df36) hlg (dj62) (df49) (hxm2 m2[0] (List.getElem_mem hm20)) (bf_hxm2.mono (by omega)) (df45) (df58) (by omega) (by decide) hS69 (by omega) (by omega)) (fun v93 H93 r93 => ?_)
            have ql365 := hlg.le
            have ql366 := hf.bk
            have ql367 := ow88.le
            obtain ⟨Q93, g93, rfl, hf, hkd93, hlg, dl293, hs93⟩ := r93
            have df368 := DFL.appK (df36) (bf_mx.mono hm0.size) hkd93
            have df369 := DFL.appK (df37) (bf_hl.mono hm0.size) hkd93
            have df370 := DFL.appK (df38) (bf_hx.mono hm0.size) hkd93
            have df371 := DFL.appK (df39) (bf_hl2.mono hm0.size) hkd93
            have df372 := DFL.appK (df40) (bf_hx2.mono hm0.size) hkd93
            have df373 := DFL.appK (df41) (bf_hpk.mono hm0.size) hkd93
            have df374 := DFL.appK (df42) (bf_hm.mono (by omega)) hkd93
            have df375 := DFL.appK (df43) (bf_hxm.mono (by omega)) hkd93
            have df376 := DFL.appK (df44) (bf_hm2.mono (by omega)) hkd93
            have df377 := DFL.appK (df45) (bf_hxm2.mono (by omega)) hkd93
            have df378 := DFL.appK (df46) (bf_hw42.mono (by omega)) hkd93
            have df379 := DFL.appK (df47) (bf_hx42.mono (by omega)) hkd93
            have dj380 : DL ((lb42 + 1)) Q93 := DL.appK (dj62) ql365 hkd93
            have dj381 : DL k88 Q93 := DL.appK (dj357) ql367 hkd93
            have df382 := DFL.appK (df44) (bf_pt91.mono (by omega)) hkd93
            have nx383 : NxK [] H0.size Q93 := NxK.tr (nx48) hkd93 hm0.size
            have nx384 : NxK Ki H69.size Q93 := NxK.tr (nx_hcm22_hf) hkd93 hcm22.size
            replace mx := mx.upL hs93 (DFL.app df36 (DFL.cons df49 DFL.nil))
            replace hl := hl.upL hs93 (DFL.app df37 (DFL.cons df50 DFL.nil))
            replace hx := fun x hx0 => (hx x hx0).upL hs93 (DFL.app df38 (DFL.cons df51 DFL.nil))
            replace hl2 := hl2.upL hs93 (DFL.app df39 (DFL.cons df52 DFL.nil))
            replace hx2 := fun x hx0 => (hx2 x hx0).upL hs93 (DFL.app df40 (DFL.cons df53 DFL.nil))
            replace hpk := hpk.upL hs93 (DFL.app df41 (DFL.cons df54 DFL.nil))
            replace hm := hm.upL hs93 (DFL.app df42 (DFL.cons df55 DFL.nil))
            replace hxm := fun x hx_ => (hxm x hx_).upL hs93 (DFL.app df43 (DFL.cons df56 DFL.nil))
            replace hm2 := hm2.upL hs93 (DFL.app df44 (DFL.cons df57 DFL.nil))
            replace hxm2 := fun x hx_ => (hxm2 x hx_).upL hs93 (DFL.app df45 (DFL.cons df58 DFL.nil))
            replace hw42 := hw42.upL hs93 (DFL.app df46 (DFL.cons df59 DFL.nil))
            replace hx42 := fun x hx_ => (hx42 x hx_).upL hs93 (DFL.app df47 (DFL.cons df60 DFL.nil))
            replace ow88 := ow88.upL hs93 (DL.app dj357 (DL.cons dj356.symm DL.nil))
            replace pt91 := pt91.upL hs93 (DFL.app df44 (DFL.cons df57 DFL.nil))
            replace hm0 := (Mo.trL (ks := []) (hm0.mdn []) hs93 (MIL.app (MIL.ofK0 (nx48)) (MIL.cons (MI.app MI.z (nx61) (Nat.le_refl _)) MIL.nil))).nil
            replace hcm22 := hcm22.trL hs93 (MIL.app (MIL.ofK (nx_hcm22_hf) (by intro k hk; simp [hk])) (MIL.cons (MI.app (MI.root (by simp)) (nx_hcm22_hlg) (Nat.le_refl _)) MIL.nil))
            have hz24 := hs93.size
            have hbk_hf := hf.bk
            have hsa := app_safe (r := m2[0].2) hflk hfl2 (by decide) (by omega) (by omega)
            rw [hmk] at hsa
            obtain ⟨as1, as2⟩ := hsa
            have hB93 := bs_app2 hS69 [100, 47, 106] m.length false m2[0].2 (M := 200008) (fl_rd hflk)
            have hmw : recs (m ++ [m2[0]]) = recs m ++ [m2[0].2] := by simp [recs]
            have hwm : ∀ r ∈ recs (m ++ [m2[0]]), r.length ≤ 1048576 := fun r h => by rw [hmw] at h; rcases List.mem_append.1 h with h | h; exact hmm r h; rw [List.mem_singleton.1 h]; omega
            have hWx : ∀ x ∈ m ++ [m2[0]], Rd (fun b => ((H24.size ≤ b ∧ b < H27.size) ∨ (H27.size ≤ b ∧ b < H29.size)) ∨ b + 1 = k88) H93 fB 1 x.1.v x.2 := fun x h => by rcases List.mem_append.1 h with h | h; exact (hxm x h).imp (fun b _ h => .inl (.inl h)); rw [List.mem_singleton.1 h]; exact (hxm2 m2[0] (List.getElem_mem hm20)).imp (fun b _ h => .inl (.inr h))
            have hbw : BF (fun b => ((H24.size ≤ b ∧ b < H27.size) ∨ (H27.size ≤ b ∧ b < H29.size)) ∨ b + 1 = k88) H93.size := fun b h => h.elim (fun h => h.elim (fun h => by omega) (fun h => by omega)) (fun h => by have := ow88.le; omega)
            have hdw : DFL (fun b => ((H24.size ≤ b ∧ b < H27.size) ∨ (H27.size ≤ b ∧ b < H29.size)) ∨ b + 1 = k88) Q93 := fun j hj b h => h.elim (fun h => h.elim (fun h => (df374) j hj b h) (fun h => (df376) j hj b h)) (fun h => DFL.of (dj381) j hj b h)
            refine LR.v (Y.eql rfl rfl rfl) (Wd.u rfl) rfl rfl ?_
            refine LR.nil ?_
            refine hK30 _ _ ?_
            refine CW.condp rfl (fun c94 => ?_) (fun c94 => ?_)
            ·
              refine CW.region ?_
              refine LR.v (Y.move rfl rfl) (Wd.u rfl) rfl rfl ?_
              refine LR.v (Y.assign rfl rfl) (Wd.u rfl) rfl rfl ?_
              refine LR.nil ?_
              refine QN.sub (hK22 (Q93, g93, (appD (Di.stop k) [100, 47, 106] m.length false m2[0].2).2.2.2, s88, s88, m ++ [m2[0]], m ++ [m2[0]], (fun b => ((H24.size ≤ b ∧ b < H27.size) ∨ (H27.size ≤ b ∧ b < H29.size)) ∨ b + 1 = k88), [ptr b31, Str [100, 47, 106], .int .i64 ((appD (Di.stop k) [100, 47, 106] m.length false m2[0].2).2.1 : Int), .bool (appD (Di.stop k) [100, 47, 106] m.length false m2[0].2).2.2.1]) _ ?_) ⟨rfl, rfl, (iv (by omega)), rfl, rfl, trivial⟩
              exact ⟨hf, (fun _ => ow88.rd.imp (fun b _ e => .inr e)), hWx, (fun _ => ow88.rd.imp (fun b _ e => .inr e)), hWx, hbw, hbw, hbw, hbw, hdw, hdw, hdw, hdw, hlg, by rw [hmw]; exact as2 (by omega), hwm, hwm, hB93.mono (by omega), nx384, nx_hcm22_hlg, dl293, hcm22⟩
            ·
              refine CW.skip ?_
              refine QN.sub (hK22 (Q93, g93, (appD (Di.stop k) [100, 47, 106] m.length false m2[0].2).2.2.2, t27, s88, m, m ++ [m2[0]], (fun b => ((H24.size ≤ b ∧ b < H27.size) ∨ (H27.size ≤ b ∧ b < H29.size)) ∨ b + 1 = k88), [ptr b31, Str [100, 47, 106], .int .i64 ((appD (Di.stop k) [100, 47, 106] m.length false m2[0].2).2.1 : Int), .bool (appD (Di.stop k) [100, 47, 106] m.length false m2[0].2).2.2.1]) _ ?_) ⟨rfl, rfl, (iv (by omega)), rfl, rfl, trivial⟩
              exact ⟨hf, (fun _ => hm.imp (fun b _ h => .inl (.inl h))), (fun x h => (hxm x h).imp (fun b _ h => .inl (.inl h))), (fun _ => ow88.rd.imp (fun b _ e => .inr e)), hWx, hbw, hbw, hbw, hbw, hdw, hdw, hdw, hdw, hlg, by rw [hmw]; exact as1, (fun r h => hmm r h), hwm, hB93.mono (by omega), nx384, nx_hcm22_hlg, dl293, hcm22⟩
        ·
          refine CW.skip ?_
          refine QN.sub (hK22 (Ki, g69, (Di.stop k), t27, t27, m, m, (fun b => (H24.size ≤ b ∧ b < H27.size) ∨ (H27.size ≤ b ∧ b < H29.size)), [ptr b31, Str [100, 47, 106], .int .i64 (m.length : Int), .bool false]) _ ?_) ⟨rfl, rfl, (iv (by omega)), rfl, rfl, trivial⟩
          exact ⟨hf, (fun _ => hm.imp (fun b _ h => .inl h)), (fun x h => (hxm x h).imp (fun b _ h => .inl h)), (fun _ => hm.imp (fun b _ h => .inl h)), (fun x h => (hxm x h).imp (fun b _ h => .inl h)), (fun b h => by rcases h with h | h <;> omega), (fun b h => by rcases h with h | h <;> omega), (fun b h => by rcases h with h | h <;> omega), (fun b h => by rcases h with h | h <;> omega), (fun j hj b h => h.elim (fun h => (df42) j hj b h) (fun h => (df44) j hj b h)), (fun j hj b h => h.elim (fun h => (df42) j hj b h) (fun h => (df44) j hj b h)), (fun j hj b h => h.elim (fun h => (df42) j hj b h) (fun h => (df44) j hj b h)), (fun j hj b h => h.elim (fun h => (df42) j hj b h) (fun h => (df44) j hj b h)), hlg, same_safe hflk, (fun r h => hmm r h), (fun r h => hmm r h), hS69.mono (by omega), nx_hcm22_hf, nx_hcm22_hlg, dj62, hcm22⟩
    ·
      rintro ⟨Qc, gc, Dc, sl, sw, L, W, G, cl⟩ Hcutc71 hIcutc71
      obtain ⟨hf, hL, hLx, hW, hWx, bf_hL, bf_hLx, bf_hW, bf_hWx, fgk, fgk2, fgk3, fgk4, hlg, hsf, hLm, hWm, hBc, nxl_hf, nxl_hlg, dj_hf_hlg, hlmcutc71⟩ := hIcutc71
      have df385 := DFL.appK (df36) (bf_mx.mono hm0.size) nxl_hf
      have df386 := DFL.appK (df37) (bf_hl.mono hm0.size) nxl_hf
      have df387 := DFL.appK (df38) (bf_hx.mono hm0.size) nxl_hf
      have df388 := DFL.appK (df39) (bf_hl2.mono hm0.size) nxl_hf
      have df389 := DFL.appK (df40) (bf_hx2.mono hm0.size) nxl_hf
      have df390 := DFL.appK (df41) (bf_hpk.mono hm0.size) nxl_hf
      have df391 := DFL.appK (df42) (bf_hm.mono (by omega)) nxl_hf
      have df392 := DFL.appK (df43) (bf_hxm.mono (by omega)) nxl_hf
      have df393 := DFL.appK (df44) (bf_hm2.mono (by omega)) nxl_hf
      have df394 := DFL.appK (df45) (bf_hxm2.mono (by omega)) nxl_hf
      have df395 := DFL.appK (df46) (bf_hw42.mono (by omega)) nxl_hf
      have df396 := DFL.appK (df47) (bf_hx42.mono (by omega)) nxl_hf
      have nx397 : NxK [] H0.size Qc := NxK.tr (nx48) nxl_hf hm0.size
      have df398 := DF.app (df49) (bf_mx.mono hm0.size) nxl_hlg
      have df399 := DF.app (df50) (bf_hl.mono hm0.size) nxl_hlg
      have df400 := DF.app (df51) (bf_hx.mono hm0.size) nxl_hlg
      have df401 := DF.app (df52) (bf_hl2.mono hm0.size) nxl_hlg
      have df402 := DF.app (df53) (bf_hx2.mono hm0.size) nxl_hlg
      have df403 := DF.app (df54) (bf_hpk.mono hm0.size) nxl_hlg
      have df404 := DF.app (df55) (bf_hm.mono (by omega)) nxl_hlg
      have df405 := DF.app (df56) (bf_hxm.mono (by omega)) nxl_hlg
      have df406 := DF.app (df57) (bf_hm2.mono (by omega)) nxl_hlg
      have df407 := DF.app (df58) (bf_hxm2.mono (by omega)) nxl_hlg
      have df408 := DF.app (df59) (bf_hw42.mono (by omega)) nxl_hlg
      have df409 := DF.app (df60) (bf_hx42.mono (by omega)) nxl_hlg
      have nx410 : Nx 0 H0.size ((lb42 + 1)) := Nx.tr (nx61) nxl_hlg hm0.size
      replace mx := mx.upL hlmcutc71 (DFL.app df36 (DFL.cons df49 DFL.nil))
      replace hl := hl.upL hlmcutc71 (DFL.app df37 (DFL.cons df50 DFL.nil))
      replace hx := fun x hx0 => (hx x hx0).upL hlmcutc71 (DFL.app df38 (DFL.cons df51 DFL.nil))
      replace hl2 := hl2.upL hlmcutc71 (DFL.app df39 (DFL.cons df52 DFL.nil))
      replace hx2 := fun x hx0 => (hx2 x hx0).upL hlmcutc71 (DFL.app df40 (DFL.cons df53 DFL.nil))
      replace hpk := hpk.upL hlmcutc71 (DFL.app df41 (DFL.cons df54 DFL.nil))
      replace hm := hm.upL hlmcutc71 (DFL.app df42 (DFL.cons df55 DFL.nil))
      replace hxm := fun x hx_ => (hxm x hx_).upL hlmcutc71 (DFL.app df43 (DFL.cons df56 DFL.nil))
      replace hm2 := hm2.upL hlmcutc71 (DFL.app df44 (DFL.cons df57 DFL.nil))
      replace hxm2 := fun x hx_ => (hxm2 x hx_).upL hlmcutc71 (DFL.app df45 (DFL.cons df58 DFL.nil))
      replace hw42 := hw42.upL hlmcutc71 (DFL.app df46 (DFL.cons df59 DFL.nil))
      replace hx42 := fun x hx_ => (hx42 x hx_).upL hlmcutc71 (DFL.app df47 (DFL.cons df60 DFL.nil))
      replace hm0 := (Mo.trL (ks := []) (hm0.mdn []) hlmcutc71 (MIL.app (MIL.ofK0 (nx48)) (MIL.cons (MI.app MI.z (nx61) (Nat.le_refl _)) MIL.nil))).nil
      have hz25 := hlmcutc71.size
      have hbk_hf := hf.bk
      have hle_hlg := hlg.le
      have dj411 := dj_hf_hlg
      have nx412 := nxl_hf
      have nx413 := nxl_hlg
      refine CW.seq (fun K31 hK31 hE31 => ?_)
      refine CW.region ?_
      refine LR.v (Y.move rfl rfl) (Wd.u rfl) rfl rfl ?_
      refine LR.v (Y.move rfl rfl) (Wd.u rfl) rfl rfl ?_
      -- call (*selvage/simfs.FS).Crash
      refine LR.call rfl Tryz.call12 rfl (Wd.u rfl) rfl rfl (crash_ct Qc gc b31 Dc _ s4 picks w0 _ hf hpk (bf_hpk.mono (by omega)) (df390) (hBc.bd (by omega)) (hBc.wy (by omega)) hpi) (fun v98 H98 r98 => ?_)
      have ql414 := hlg.le
      have ql415 := hf.bk
      obtain ⟨Q98, g98, rfl, hf, hkd98, hs98⟩ := r98
      have df416 := DFL.appK (df385) (bf_mx.mono hm0.size) hkd98
      have df417 := DFL.appK (df386) (bf_hl.mono hm0.size) hkd98
      have df418 := DFL.appK (df387) (bf_hx.mono hm0.size) hkd98
      have df419 := DFL.appK (df388) (bf_hl2.mono hm0.size) hkd98
      have df420 := DFL.appK (df389) (bf_hx2.mono hm0.size) hkd98
      have df421 := DFL.appK (df390) (bf_hpk.mono hm0.size) hkd98
      have df422 := DFL.appK (df391) (bf_hm.mono (by omega)) hkd98
      have df423 := DFL.appK (df392) (bf_hxm.mono (by omega)) hkd98
      have df424 := DFL.appK (df393) (bf_hm2.mono (by omega)) hkd98
      have df425 := DFL.appK (df394) (bf_hxm2.mono (by omega)) hkd98
      have df426 := DFL.appK (df395) (bf_hw42.mono (by omega)) hkd98
      have df427 := DFL.appK (df396) (bf_hx42.mono (by omega)) hkd98
      have dj428 : DL ((lb42 + 1)) Q98 := DL.appK (dj411) ql414 hkd98
      have df429 := DFL.appK (fgk) (bf_hL.mono (by omega)) hkd98
      have df430 := DFL.appK (fgk2) (bf_hLx.mono (by omega)) hkd98
      have df431 := DFL.appK (fgk3) (bf_hW.mono (by omega)) hkd98
      have df432 := DFL.appK (fgk4) (bf_hWx.mono (by omega)) hkd98
      have nx433 : NxK [] H0.size Q98 := NxK.tr (nx397) hkd98 hm0.size
      replace mx := mx.upL hs98 (df385)
      replace hl := hl.upL hs98 (df386)
      replace hx := fun x hx0 => (hx x hx0).upL hs98 (df387)
      replace hl2 := hl2.upL hs98 (df388)
      replace hx2 := fun x hx0 => (hx2 x hx0).upL hs98 (df389)
      replace hpk := hpk.upL hs98 (df390)
      replace hm := hm.upL hs98 (df391)
      replace hxm := fun x hx_ => (hxm x hx_).upL hs98 (df392)
      replace hm2 := hm2.upL hs98 (df393)
      replace hxm2 := fun x hx_ => (hxm2 x hx_).upL hs98 (df394)
      replace hw42 := hw42.upL hs98 (df395)
      replace hx42 := fun x hx_ => (hx42 x hx_).upL hs98 (df396)
      replace hlg := hlg.upL hs98 (dj411)
      replace hL := fun u => (hL u).upL hs98 (fgk)
      replace hLx := fun x hL_ => (hLx x hL_).upL hs98 (fgk2)
      replace hW := fun u => (hW u).upL hs98 (fgk3)
      replace hWx := fun x hW_ => (hWx x hW_).upL hs98 (fgk4)
      replace hm0 := (Mo.trL (ks := []) (hm0.mdn []) hs98 (MIL.ofK0 (nx397))).nil
      have hz26 := hs98.size
      have hbk_hf := hf.bk
      refine LR.nil ?_
      refine hK31 _ _ ?_
      refine CW.seq (fun K32 hK32 hE32 => ?_)
      refine CW.region ?_
      refine LR.v (Y.move rfl rfl) (Wd.u rfl) rfl rfl ?_
      refine LR.v (Y.move rfl rfl) (Wd.u rfl) rfl rfl ?_
      -- call selvage/selvagelaw3.within
      refine LR.call rfl Tryz.call15 rfl (Wd.u rfl) rfl rfl (within3_ct ag 6 w0 _ (by omega) hag) (fun v101 H101 r101 => ?_)
      obtain ⟨rfl, hs101⟩ := r101
      replace mx := mx.nw hs101
      replace hl := hl.nw hs101
      replace hx := fun x hx0 => (hx x hx0).nw hs101
      replace hl2 := hl2.nw hs101
      replace hx2 := fun x hx0 => (hx2 x hx0).nw hs101
      replace hpk := hpk.nw hs101
      replace hm := hm.nw hs101
      replace hxm := fun x hx_ => (hxm x hx_).nw hs101
      replace hm2 := hm2.nw hs101
      replace hxm2 := fun x hx_ => (hxm2 x hx_).nw hs101
      replace hw42 := hw42.nw hs101
      replace hx42 := fun x hx_ => (hx42 x hx_).nw hs101
      replace hlg := hlg.nw hs101
      replace hf := hf.nw hs101
      replace hL := fun u => (hL u).nw hs101
      replace hLx := fun x hL_ => (hLx x hL_).nw hs101
      replace hW := fun u => (hW u).nw hs101
      replace hWx := fun x hW_ => (hWx x hW_).nw hs101
      replace hm0 := hm0.tr hs101
      have hz27 := hs101.size
      have hwa := wiN_lt (a := ag) (show 0 < 6 by omega)
      obtain ⟨a, ha⟩ : ∃ a, a = wiN ag 6 := ⟨_, rfl⟩
      rw [← ha] at hwa
      -- call (*selvage/simfs.FS).Stop
      refine LR.call rfl Tryz.call14 rfl (Wd.u rfl) rfl rfl (stop_ct Q98 g98 b31 (Dc.crash picks) ((wiN ag 6 : Nat) : Int) w0 _ hf (by omega)) (fun v102 H102 r102 => ?_)
      obtain ⟨g102, rfl, hf, hg102, hs102⟩ := r102
      replace mx := mx.upL hs102 (df416)
      replace hl := hl.upL hs102 (df417)
      replace hx := fun x hx0 => (hx x hx0).upL hs102 (df418)
      replace hl2 := hl2.upL hs102 (df419)
      replace hx2 := fun x hx0 => (hx2 x hx0).upL hs102 (df420)
      replace hpk := hpk.upL hs102 (df421)
      replace hm := hm.upL hs102 (df422)
      replace hxm := fun x hx_ => (hxm x hx_).upL hs102 (df423)
      replace hm2 := hm2.upL hs102 (df424)
      replace hxm2 := fun x hx_ => (hxm2 x hx_).upL hs102 (df425)
      replace hw42 := hw42.upL hs102 (df426)
      replace hx42 := fun x hx_ => (hx42 x hx_).upL hs102 (df427)
      replace hlg := hlg.upL hs102 (dj428)
      replace hL := fun u => (hL u).upL hs102 (df429)
      replace hLx := fun x hL_ => (hLx x hL_).upL hs102 (df430)
      replace hW := fun u => (hW u).upL hs102 (df431)
      replace hWx := fun x hW_ => (hWx x hW_).upL hs102 (df432)
      replace hm0 := (Mo.trL (ks := []) (hm0.mdn []) hs102 (MIL.ofK0 (nx433))).nil
      have hz28 := hs102.size
      rw [← ha] at hf
      replace hf : PDk Q98 g102 H102 b31 ((Dc.crash picks).stop a) := hf
      obtain ⟨X, c3, hXe, hX, hfl3⟩ := hsf.get picks
      have hXm : ∀ r ∈ X, r.length ≤ 1048576 := fun r h => by rcases hXe with e | e; exact hLm r (e ▸ h); exact hWm r (e ▸ h)
      have hS102 := (hBc.crash picks).stop a
      refine LR.nil ?_
      refine hK32 _ _ ?_
      refine CW.seq (fun K33 hK33 hE33 => ?_)
      refine CW.region ?_
      refine LR.v (Y.move rfl rfl) (Wd.u rfl) rfl rfl ?_
      -- call selvage/wal.Open
      refine LR.call rfl Tryz.call9 rfl (Wd.u rfl) rfl rfl (wopen_ct mx_ Q98 g102 b31 ((Dc.crash picks).stop a) [100, 47, 106] _ w0 _ hf mx (bf_mx.mono (by omega)) (df416) (by decide) hS102 (by omega)) (fun v105 H105 r105 => ?_)
      have ql434 := hlg.le
      have ql435 := hf.bk
      obtain ⟨lv105, kl105, t105, l105, Q105, g105, G105, rfl, hf, hkd105, hlg, hkl105, dl2105, hz105, hrl105, hw105, hx105, hGb105, hGf105, hGk105, hGl105, hs105⟩ := r105
      have df436 := DFL.appK (df416) (bf_mx.mono hm0.size) hkd105
      have df437 := DFL.appK (df417) (bf_hl.mono hm0.size) hkd105
      have df438 := DFL.appK (df418) (bf_hx.mono hm0.size) hkd105
      have df439 := DFL.appK (df419) (bf_hl2.mono hm0.size) hkd105
      have df440 := DFL.appK (df420) (bf_hx2.mono hm0.size) hkd105
      have df441 := DFL.appK (df421) (bf_hpk.mono hm0.size) hkd105
      have df442 := DFL.appK (df422) (bf_hm.mono (by omega)) hkd105
      have df443 := DFL.appK (df423) (bf_hxm.mono (by omega)) hkd105
      have df444 := DFL.appK (df424) (bf_hm2.mono (by omega)) hkd105
      have df445 := DFL.appK (df425) (bf_hxm2.mono (by omega)) hkd105
      have df446 := DFL.appK (df426) (bf_hw42.mono (by omega)) hkd105
      have df447 := DFL.appK (df427) (bf_hx42.mono (by omega)) hkd105
      have dj448 : DL ((lb42 + 1)) Q105 := DL.appK (dj428) ql434 hkd105
      have df449 := DFL.appK (df429) (bf_hL.mono (by omega)) hkd105
      have df450 := DFL.appK (df430) (bf_hLx.mono (by omega)) hkd105
      have df451 := DFL.appK (df431) (bf_hW.mono (by omega)) hkd105
      have df452 := DFL.appK (df432) (bf_hWx.mono (by omega)) hkd105
      have nx453 : NxK [] H0.size Q105 := NxK.tr (nx433) hkd105 hm0.size
      have df454 := DF.app (DF.z) (bf_mx.mono hm0.size) hkl105
      have df455 := DF.app (DF.z) (bf_hl.mono hm0.size) hkl105
      have df456 := DF.app (DF.z) (bf_hx.mono hm0.size) hkl105
      have df457 := DF.app (DF.z) (bf_hl2.mono hm0.size) hkl105
      have df458 := DF.app (DF.z) (bf_hx2.mono hm0.size) hkl105
      have df459 := DF.app (DF.z) (bf_hpk.mono hm0.size) hkl105
      have df460 := DF.app (DF.z) (bf_hm.mono (by omega)) hkl105
      have df461 := DF.app (DF.z) (bf_hxm.mono (by omega)) hkl105
      have df462 := DF.app (DF.z) (bf_hm2.mono (by omega)) hkl105
      have df463 := DF.app (DF.z) (bf_hxm2.mono (by omega)) hkl105
      have df464 := DF.app (DF.z) (bf_hw42.mono (by omega)) hkl105
      have df465 := DF.app (DF.z) (bf_hx42.mono (by omega)) hkl105
      have dj466 : Dj ((lb42 + 1)) kl105 := Dj.app (Dj.z) ql434 hkl105
      have dj467 : DL kl105 Q98 := DL.app2 (DL.zK) ql435 hkl105
      have df468 := DF.app (DF.z) (bf_hL.mono (by omega)) hkl105
      have df469 := DF.app (DF.z) (bf_hLx.mono (by omega)) hkl105
      have df470 := DF.app (DF.z) (bf_hW.mono (by omega)) hkl105
      have df471 := DF.app (DF.z) (bf_hWx.mono (by omega)) hkl105
      have nx472 : Nx 0 H0.size kl105 := Nx.tr (Nx.refl 0 _) hkl105 hm0.size
      replace mx := mx.upL hs105 (df416)
      replace hl := hl.upL hs105 (df417)
      replace hx := fun x hx0 => (hx x hx0).upL hs105 (df418)
      replace hl2 := hl2.upL hs105 (df419)
      replace hx2 := fun x hx0 => (hx2 x hx0).upL hs105 (df420)
      replace hpk := hpk.upL hs105 (df421)
      replace hm := hm.upL hs105 (df422)
      replace hxm := fun x hx_ => (hxm x hx_).upL hs105 (df423)
      replace hm2 := hm2.upL hs105 (df424)
      replace hxm2 := fun x hx_ => (hxm2 x hx_).upL hs105 (df425)
      replace hw42 := hw42.upL hs105 (df426)
      replace hx42 := fun x hx_ => (hx42 x hx_).upL hs105 (df427)
      replace hL := fun u => (hL u).upL hs105 (df429)
      replace hLx := fun x hL_ => (hLx x hL_).upL hs105 (df430)
      replace hW := fun u => (hW u).upL hs105 (df431)
      replace hWx := fun x hW_ => (hWx x hW_).upL hs105 (df432)
      replace hm0 := (Mo.trL (ks := []) (hm0.mdn []) hs105 (MIL.ofK0 (nx433))).nil
      have hz29 := hs105.size
      have hbk_hf := hf.bk
      have hle_hlg := hlg.le
      have bf_hw105 := hGb105
      have bf_hx105 := hGb105
      obtain ⟨o1, o2⟩ := open_fl2 (hfl3.stop a) hX hXm rfl (by decide) (by decide) (by decide)
      have hS105 := bs_open2 hS102 [100, 47, 106] (fl_rd (hfl3.stop a))
      refine LR.v (Y.move rfl rfl) (Wd.u rfl) rfl rfl ?_
      refine LR.v (Y.extract rfl rfl rfl) (Wd.u rfl) rfl rfl ?_
      refine LR.v (Y.extract rfl rfl rfl) (Wd.u rfl) rfl rfl ?_
      refine LR.v (Y.extract rfl rfl rfl) (Wd.u rfl) rfl rfl ?_
      refine LR.v (Y.assign rfl rfl) (Wd.u rfl) rfl rfl ?_
      refine LR.v (Y.assign rfl rfl) (Wd.u rfl) rfl rfl ?_
      refine LR.v (Y.assign rfl rfl) (Wd.u rfl) rfl rfl ?_
      refine LR.nil ?_
      refine hK33 _ _ ?_
      refine CW.cut (fun (s_ : (List Nat) × (Gh) × (Dk) × (SV) × (List (SV × Rec)) × (Nat → Prop)) => match s_ with | (Q7, g7, D7, s21, R, GR) => [(0, sl.v), (13, ptr b31), (17, .int .i64 0), (19, sw.v), (21, s21.v)])
        (fun (s_ : (List Nat) × (Gh) × (Dk) × (SV) × (List (SV × Rec)) × (Nat → Prop)) (H : Heap) => match s_ with | (Q7, g7, D7, s21, R, GR) => (PDk Q7 g7 H b31 D7) ∧ (∀ u : Unit, Rd GR H fP 1 s21.v R) ∧ (∀ x ∈ R, Rd GR H fB 1 x.1.v x.2) ∧ (BF GR H.size) ∧ (BF GR H.size) ∧ (DFL GR Q7) ∧ (DFL GR Q7) ∧ (recs R = X) ∧ (D7.dead = false ∧ ∃ c7, Pj X c7 ∧ Fl [100, 47, 106] c7 D7) ∧ (Bs 40000000 D7) ∧ (NxK Q105 H105.size Q7) ∧ Mo (Ms Q105) H105 H) (fun K34 hK34 hE34 => ?_) ?_
      ·
        have hcm34 : Mo (Ms Q105) H105 H105 := Mo.refl _ _
        have nx_hcm34_hf := NxK.refl Q105 H105.size
        refine CW.seq (fun K35 hK35 hE35 => ?_)
        refine CW.region ?_
        refine LR.v (Y.move rfl rfl) (Wd.u rfl) rfl rfl ?_
        refine LR.v (Y.neq rfl rfl rfl) (Wd.u rfl) rfl rfl ?_
        refine LR.nil ?_
        refine hK35 _ _ ?_
        refine CW.condp rfl (fun c110 => ?_) (fun c110 => ?_)
        ·
          obtain ⟨o3, o4⟩ := o1 (by omega)
          obtain ⟨c6, hX6, hfl6⟩ := o4 picks
          obtain ⟨o5, o6, o7, o8, o9⟩ := open_fl0 hfl6 hX6 hXm rfl rfl (by decide) (by decide) (by decide)
          refine CW.seq (fun K36 hK36 hE36 => ?_)
          refine CW.seq (fun K37 hK37 hE37 => ?_)
          refine CW.region ?_
          refine LR.v (Y.move rfl rfl) (Wd.u rfl) rfl rfl ?_
          refine LR.v ((Y.neq rfl rfl rfl).isF ((fun h => h (by omega)))) (Wd.u rfl) rfl rfl ?_
          refine LR.nil ?_
          refine hK37 _ _ ?_
          refine CW.cond_f rfl ?_
          refine CW.skip ?_
          refine hK36 _ _ ?_
          refine CW.seq (fun K38 hK38 hE38 => ?_)
          refine CW.region ?_
          refine LR.v (Y.move rfl rfl) (Wd.u rfl) rfl rfl ?_
          refine LR.v (Y.move rfl rfl) (Wd.u rfl) rfl rfl ?_
          -- call (*selvage/simfs.FS).Crash
          refine LR.call rfl Tryz.call12 rfl (Wd.u rfl) rfl rfl (crash_ct Q105 g105 b31 (openD ((Dc.crash picks).stop a) [100, 47, 106]).2.2 _ s4 picks w0 _ hf hpk (bf_hpk.mono (by omega)) (df441) (hS105.bd (by omega)) (hS105.wy (by omega)) hpi) (fun v115 H115 r115 => ?_)
          have ql473 := hlg.le
          have ql474 := hf.bk
          obtain ⟨Q115, g115, rfl, hf, hkd115, hs115⟩ := r115
          have df475 := DFL.appK (df436) (bf_mx.mono hm0.size) hkd115
          have df476 := DFL.appK (df437) (bf_hl.mono hm0.size) hkd115
          have df477 := DFL.appK (df438) (bf_hx.mono hm0.size) hkd115
          have df478 := DFL.appK (df439) (bf_hl2.mono hm0.size) hkd115
          have df479 := DFL.appK (df440) (bf_hx2.mono hm0.size) hkd115
          have df480 := DFL.appK (df441) (bf_hpk.mono hm0.size) hkd115
          have df481 := DFL.appK (df442) (bf_hm.mono (by omega)) hkd115
          have df482 := DFL.appK (df443) (bf_hxm.mono (by omega)) hkd115
          have df483 := DFL.appK (df444) (bf_hm2.mono (by omega)) hkd115
          have df484 := DFL.appK (df445) (bf_hxm2.mono (by omega)) hkd115
          have df485 := DFL.appK (df446) (bf_hw42.mono (by omega)) hkd115
          have df486 := DFL.appK (df447) (bf_hx42.mono (by omega)) hkd115
          have dj487 : DL kl105 Q115 := DL.appK (dl2105) ql473 hkd115
          have df488 := DFL.appK (df449) (bf_hL.mono (by omega)) hkd115
          have df489 := DFL.appK (df450) (bf_hLx.mono (by omega)) hkd115
          have df490 := DFL.appK (df451) (bf_hW.mono (by omega)) hkd115
          have df491 := DFL.appK (df452) (bf_hWx.mono (by omega)) hkd115
          have df492 := DFL.appK (hGk105) (bf_hw105.mono (by omega)) hkd115
          have df493 := DFL.appK (hGk105) (bf_hx105.mono (by omega)) hkd115
          have nx494 : NxK [] H0.size Q115 := NxK.tr (nx453) hkd115 hm0.size
          have nx495 : NxK Q105 H105.size Q115 := NxK.tr (nx_hcm34_hf) hkd115 hcm34.size
          replace mx := mx.upL hs115 (df436)
          replace hl := hl.upL hs115 (df437)
          replace hx := fun x hx0 => (hx x hx0).upL hs115 (df438)
          replace hl2 := hl2.upL hs115 (df439)
          replace hx2 := fun x hx0 => (hx2 x hx0).upL hs115 (df440)
          replace hpk := hpk.upL hs115 (df441)
          replace hm := hm.upL hs115 (df442)
          replace hxm := fun x hx_ => (hxm x hx_).upL hs115 (df443)
          replace hm2 := hm2.upL hs115 (df444)
          replace hxm2 := fun x hx_ => (hxm2 x hx_).upL hs115 (df445)
          replace hw42 := hw42.upL hs115 (df446)
          replace hx42 := fun x hx_ => (hx42 x hx_).upL hs115 (df447)
          replace hlg := hlg.upL hs115 (dl2105)
          replace hL := fun u => (hL u).upL hs115 (df449)
          replace hLx := fun x hL_ => (hLx x hL_).upL hs115 (df450)
          replace hW := fun u => (hW u).upL hs115 (df451)
          replace hWx := fun x hW_ => (hWx x hW_).upL hs115 (df452)
          replace hw105 := hw105.upL hs115 (hGk105)
          replace hx105 := fun x hx_ => (hx105 x hx_).upL hs115 (hGk105)
          replace hm0 := (Mo.trL (ks := []) (hm0.mdn []) hs115 (MIL.ofK0 (nx453))).nil
          replace hcm34 := hcm34.trL hs115 (MIL.ofK (nx_hcm34_hf) (by intro k hk; simp [hk]))
          have hz30 := hs115.size
          have hbk_hf := hf.bk
          refine LR.nil ?_
          refine hK38 _ _ ?_
          refine CW.region ?_
          refine LR.v (Y.move rfl rfl) (Wd.u rfl) rfl rfl ?_
          -- call selvage/wal.Open
          refine LR.call rfl Tryz.call9 rfl (Wd.u rfl) rfl rfl (wopen_ok mx_ Q115 g115 b31 ((openD ((Dc.crash picks).stop a) [100, 47, 106]).2.2.crash picks) [100, 47, 106] _ w0 _ hf mx (bf_mx.mono (by omega)) (df475) (by decide) (hS105.crash picks) (by omega) o5) (fun v118 H118 r118 => ?_)
          have ql496 := hlg.le
          have ql497 := hf.bk
          obtain ⟨lb118, t118, l118, Q118, g118, G118, rfl, hf, hkd118, hlh, hkl118, dl2118, hrl118, hw118, hx118, hGb118, hGf118, hGk118, hGl118, hs118⟩ := r118
          have df498 := DFL.appK (df475) (bf_mx.mono hm0.size) hkd118
          have df499 := DFL.appK (df476) (bf_hl.mono hm0.size) hkd118
          have df500 := DFL.appK (df477) (bf_hx.mono hm0.size) hkd118
          have df501 := DFL.appK (df478) (bf_hl2.mono hm0.size) hkd118
          have df502 := DFL.appK (df479) (bf_hx2.mono hm0.size) hkd118
          have df503 := DFL.appK (df480) (bf_hpk.mono hm0.size) hkd118
          have df504 := DFL.appK (df481) (bf_hm.mono (by omega)) hkd118
          have df505 := DFL.appK (df482) (bf_hxm.mono (by omega)) hkd118
          have df506 := DFL.appK (df483) (bf_hm2.mono (by omega)) hkd118
          have df507 := DFL.appK (df484) (bf_hxm2.mono (by omega)) hkd118
          have df508 := DFL.appK (df485) (bf_hw42.mono (by omega)) hkd118
          have df509 := DFL.appK (df486) (bf_hx42.mono (by omega)) hkd118
          have dj510 : DL kl105 Q118 := DL.appK (dj487) ql496 hkd118
          have df511 := DFL.appK (df488) (bf_hL.mono (by omega)) hkd118
          have df512 := DFL.appK (df489) (bf_hLx.mono (by omega)) hkd118
          have df513 := DFL.appK (df490) (bf_hW.mono (by omega)) hkd118
          have df514 := DFL.appK (df491) (bf_hWx.mono (by omega)) hkd118
          have df515 := DFL.appK (df492) (bf_hw105.mono (by omega)) hkd118
          have df516 := DFL.appK (df493) (bf_hx105.mono (by omega)) hkd118
          have nx517 : NxK [] H0.size Q118 := NxK.tr (nx494) hkd118 hm0.size
          have nx518 : NxK Q105 H105.size Q118 := NxK.tr (nx495) hkd118 hcm34.size
          have df519 := DF.app (DF.z) (bf_mx.mono hm0.size) hkl118
          have df520 := DF.app (DF.z) (bf_hl.mono hm0.size) hkl118
          have df521 := DF.app (DF.z) (bf_hx.mono hm0.size) hkl118
          have df522 := DF.app (DF.z) (bf_hl2.mono hm0.size) hkl118
          have df523 := DF.app (DF.z) (bf_hx2.mono hm0.size) hkl118
          have df524 := DF.app (DF.z) (bf_hpk.mono hm0.size) hkl118
          have df525 := DF.app (DF.z) (bf_hm.mono (by omega)) hkl118
          have df526 := DF.app (DF.z) (bf_hxm.mono (by omega)) hkl118
          have df527 := DF.app (DF.z) (bf_hm2.mono (by omega)) hkl118
          have df528 := DF.app (DF.z) (bf_hxm2.mono (by omega)) hkl118
          have df529 := DF.app (DF.z) (bf_hw42.mono (by omega)) hkl118
          have df530 := DF.app (DF.z) (bf_hx42.mono (by omega)) hkl118
          have dj531 : Dj kl105 (lb118 + 1) := Dj.app (Dj.z) ql496 hkl118
          have dj532 : DL (lb118 + 1) Q115 := DL.app2 (DL.zK) ql497 hkl118
          have df533 := DF.app (DF.z) (bf_hL.mono (by omega)) hkl118
          have df534 := DF.app (DF.z) (bf_hLx.mono (by omega)) hkl118
          have df535 := DF.app (DF.z) (bf_hW.mono (by omega)) hkl118
          have df536 := DF.app (DF.z) (bf_hWx.mono (by omega)) hkl118
          have df537 := DF.app (DF.z) (bf_hw105.mono (by omega)) hkl118
          have df538 := DF.app (DF.z) (bf_hx105.mono (by omega)) hkl118
          have nx539 : Nx 0 H0.size (lb118 + 1) := Nx.tr (Nx.refl 0 _) hkl118 hm0.size
          have nx540 : Nx 0 H105.size (lb118 + 1) := Nx.tr (Nx.refl 0 _) hkl118 hcm34.size
          replace mx := mx.upL hs118 (df475)
          replace hl := hl.upL hs118 (df476)
          replace hx := fun x hx0 => (hx x hx0).upL hs118 (df477)
          replace hl2 := hl2.upL hs118 (df478)
          replace hx2 := fun x hx0 => (hx2 x hx0).upL hs118 (df479)
          replace hpk := hpk.upL hs118 (df480)
          replace hm := hm.upL hs118 (df481)
          replace hxm := fun x hx_ => (hxm x hx_).upL hs118 (df482)
          replace hm2 := hm2.upL hs118 (df483)
          replace hxm2 := fun x hx_ => (hxm2 x hx_).upL hs118 (df484)
          replace hw42 := hw42.upL hs118 (df485)
          replace hx42 := fun x hx_ => (hx42 x hx_).upL hs118 (df486)
          replace hlg := hlg.upL hs118 (dj487)
          replace hL := fun u => (hL u).upL hs118 (df488)
          replace hLx := fun x hL_ => (hLx x hL_).upL hs118 (df489)
          replace hW := fun u => (hW u).upL hs118 (df490)
          replace hWx := fun x hW_ => (hWx x hW_).upL hs118 (df491)
          replace hw105 := hw105.upL hs118 (df492)
          replace hx105 := fun x hx_ => (hx105 x hx_).upL hs118 (df493)
          replace hm0 := (Mo.trL (ks := []) (hm0.mdn []) hs118 (MIL.ofK0 (nx494))).nil
          replace hcm34 := hcm34.trL hs118 (MIL.ofK (nx495) (by intro k hk; simp [hk]))
          have hz31 := hs118.size
          have hbk_hf := hf.bk
          have hle_hlh := hlh.le
          have bf_hw118 := hGb118
          have df541 : DF _ kl105 := DF.above hGf118 (by first | exact hle_hlg | exact hlt_hlg | omega)
          have bf_hx118 := hGb118
          have df542 : DF _ kl105 := DF.above hGf118 (by first | exact hle_hlg | exact hlt_hlg | omega)
          have hB118 := bs_open2 (hS105.crash picks) [100, 47, 106] (fl_rd hfl6)
          refine LR.v (Y.move rfl rfl) (Wd.u rfl) rfl rfl ?_
          refine LR.v (Y.extract rfl rfl rfl) (Wd.u rfl) rfl rfl ?_
          refine LR.v (Y.extract rfl rfl rfl) (Wd.u rfl) rfl rfl ?_
          refine LR.v (Y.extract rfl rfl rfl) (Wd.u rfl) rfl rfl ?_
          refine LR.v (Y.assign rfl rfl) (Wd.u rfl) rfl rfl ?_
          refine LR.v (Y.assign rfl rfl) (Wd.u rfl) rfl rfl ?_
          refine LR.nil ?_
          refine QN.sub (hK34 (Q118, g118, (openD ((openD ((Dc.crash picks).stop a) [100, 47, 106]).2.2.crash picks) [100, 47, 106]).2.2, t118, l118, G118) _ ?_) ⟨rfl, rfl, (iv (by omega)), rfl, rfl, trivial⟩
          exact ⟨hf, (fun _ => hw118), hx118, (bf_hw118.mono (by omega)), (bf_hw118.mono (by omega)), (hGk118), (hGk118), hrl118.trans o6, ⟨o8, o7⟩, hB118.mono (by omega), nx518, hcm34⟩
        ·
          refine CW.skip ?_
          have he0 : (openD ((Dc.crash picks).stop a) [100, 47, 106]).1 = 0 := by omega
          obtain ⟨o6, o8, o7⟩ := o2 he0
          refine QN.sub (hK34 (Q105, g105, (openD ((Dc.crash picks).stop a) [100, 47, 106]).2.2, t105, l105, G105) _ ?_) ⟨rfl, rfl, (iv (by omega)), rfl, rfl, trivial⟩
          exact ⟨hf, (fun _ => hw105), hx105, (bf_hw105.mono (by omega)), (bf_hw105.mono (by omega)), (hGk105), (hGk105), hrl105.trans o6, ⟨o8, o7⟩, hS105.mono (by omega), nx_hcm34_hf, hcm34⟩
      ·
        rintro ⟨Q7, g7, D7, s21, R, GR⟩ Hcutc110 hIcutc110
        obtain ⟨hf, hR, hRx, bf_hR, bf_hRx, fgr, fgr2, hRX, hfl7, hB7, nxl_hf, hlmcutc110⟩ := hIcutc110
        have df543 := DFL.appK (df436) (bf_mx.mono hm0.size) nxl_hf
        have df544 := DFL.appK (df437) (bf_hl.mono hm0.size) nxl_hf
        have df545 := DFL.appK (df438) (bf_hx.mono hm0.size) nxl_hf
        have df546 := DFL.appK (df439) (bf_hl2.mono hm0.size) nxl_hf
        have df547 := DFL.appK (df440) (bf_hx2.mono hm0.size) nxl_hf
        have df548 := DFL.appK (df441) (bf_hpk.mono hm0.size) nxl_hf
        have df549 := DFL.appK (df442) (bf_hm.mono (by omega)) nxl_hf
        have df550 := DFL.appK (df443) (bf_hxm.mono (by omega)) nxl_hf
        have df551 := DFL.appK (df444) (bf_hm2.mono (by omega)) nxl_hf
        have df552 := DFL.appK (df445) (bf_hxm2.mono (by omega)) nxl_hf
        have df553 := DFL.appK (df446) (bf_hw42.mono (by omega)) nxl_hf
        have df554 := DFL.appK (df447) (bf_hx42.mono (by omega)) nxl_hf
        have dj555 : DL kl105 Q7 := DL.appK (dl2105) hlg.le nxl_hf
        have df556 := DFL.appK (df449) (bf_hL.mono (by omega)) nxl_hf
        have df557 := DFL.appK (df450) (bf_hLx.mono (by omega)) nxl_hf
        have df558 := DFL.appK (df451) (bf_hW.mono (by omega)) nxl_hf
        have df559 := DFL.appK (df452) (bf_hWx.mono (by omega)) nxl_hf
        have df560 := DFL.appK (hGk105) (bf_hw105.mono (by omega)) nxl_hf
        have df561 := DFL.appK (hGk105) (bf_hx105.mono (by omega)) nxl_hf
        have nx562 : NxK [] H0.size Q7 := NxK.tr (nx453) nxl_hf hm0.size
        replace mx := mx.upL hlmcutc110 (df436)
        replace hl := hl.upL hlmcutc110 (df437)
        replace hx := fun x hx0 => (hx x hx0).upL hlmcutc110 (df438)
        replace hl2 := hl2.upL hlmcutc110 (df439)
        replace hx2 := fun x hx0 => (hx2 x hx0).upL hlmcutc110 (df440)
        replace hpk := hpk.upL hlmcutc110 (df441)
        replace hm := hm.upL hlmcutc110 (df442)
        replace hxm := fun x hx_ => (hxm x hx_).upL hlmcutc110 (df443)
        replace hm2 := hm2.upL hlmcutc110 (df444)
        replace hxm2 := fun x hx_ => (hxm2 x hx_).upL hlmcutc110 (df445)
        replace hw42 := hw42.upL hlmcutc110 (df446)
        replace hx42 := fun x hx_ => (hx42 x hx_).upL hlmcutc110 (df447)
        replace hlg := hlg.upL hlmcutc110 (dl2105)
        replace hL := fun u => (hL u).upL hlmcutc110 (df449)
        replace hLx := fun x hL_ => (hLx x hL_).upL hlmcutc110 (df450)
        replace hW := fun u => (hW u).upL hlmcutc110 (df451)
        replace hWx := fun x hW_ => (hWx x hW_).upL hlmcutc110 (df452)
        replace hw105 := hw105.upL hlmcutc110 (hGk105)
        replace hx105 := fun x hx_ => (hx105 x hx_).upL hlmcutc110 (hGk105)
        replace hm0 := (Mo.trL (ks := []) (hm0.mdn []) hlmcutc110 (MIL.ofK0 (nx453))).nil
        have hz32 := hlmcutc110.size
        have hbk_hf := hf.bk
        have nx563 := nxl_hf
        refine CW.seq (fun K39 hK39 hE39 => ?_)
        refine CW.region ?_
        refine LR.v (Y.move rfl rfl) (Wd.u rfl) rfl rfl ?_
        -- call (*selvage/simfs.FS).Stop
        refine LR.call rfl Tryz.call14 rfl (Wd.u rfl) rfl rfl (stop_ct Q7 g7 b31 D7 (0 : Int) w0 _ hf (by omega)) (fun v123 H123 r123 => ?_)
        obtain ⟨g123, rfl, hf, hg123, hs123⟩ := r123
        replace mx := mx.upL hs123 (df543)
        replace hl := hl.upL hs123 (df544)
        replace hx := fun x hx0 => (hx x hx0).upL hs123 (df545)
        replace hl2 := hl2.upL hs123 (df546)
        replace hx2 := fun x hx0 => (hx2 x hx0).upL hs123 (df547)
        replace hpk := hpk.upL hs123 (df548)
        replace hm := hm.upL hs123 (df549)
        replace hxm := fun x hx_ => (hxm x hx_).upL hs123 (df550)
        replace hm2 := hm2.upL hs123 (df551)
        replace hxm2 := fun x hx_ => (hxm2 x hx_).upL hs123 (df552)
        replace hw42 := hw42.upL hs123 (df553)
        replace hx42 := fun x hx_ => (hx42 x hx_).upL hs123 (df554)
        replace hlg := hlg.upL hs123 (dj555)
        replace hL := fun u => (hL u).upL hs123 (df556)
        replace hLx := fun x hL_ => (hLx x hL_).upL hs123 (df557)
        replace hW := fun u => (hW u).upL hs123 (df558)
        replace hWx := fun x hW_ => (hWx x hW_).upL hs123 (df559)
        replace hw105 := hw105.upL hs123 (df560)
        replace hx105 := fun x hx_ => (hx105 x hx_).upL hs123 (df561)
        replace hR := fun u => (hR u).upL hs123 (fgr)
        replace hRx := fun x hR_ => (hRx x hR_).upL hs123 (fgr2)
        replace hm0 := (Mo.trL (ks := []) (hm0.mdn []) hs123 (MIL.ofK0 (nx562))).nil
        have hz33 := hs123.size
        replace hf : PDk Q7 g123 H123 b31 (D7.stop 0) := hf
        obtain ⟨d7, c7, hX7, hfl7⟩ := hfl7
        obtain ⟨z1, z2, z3, z4, z5⟩ := open_fl0 (hfl7.stop 0) hX7 hXm d7 rfl (by decide) (by decide) (by decide)
        have hS123 := hB7.stop 0
        refine LR.nil ?_
        refine hK39 _ _ ?_
        refine CW.seq (fun K40 hK40 hE40 => ?_)
        refine CW.seq (fun K41 hK41 hE41 => ?_)
        refine CW.region ?_
        refine LR.v (Y.move rfl rfl) (Wd.u rfl) rfl rfl ?_
        refine LR.v ((Y.neq rfl rfl rfl).isF ((fun h => h rfl))) (Wd.u rfl) rfl rfl ?_
        refine LR.v (Y.move rfl rfl) (Wd.u rfl) rfl rfl ?_
        refine LR.v (Y.move rfl rfl) (Wd.g rfl rfl rfl) rfl rfl ?_
        refine LR.v (Y.move rfl rfl) (Wd.g rfl rfl rfl) rfl rfl ?_
        -- call selvage/selvagelaw3.sameRows
        refine LR.call rfl Tryz.call13 rfl (Wd.g rfl rfl rfl) rfl rfl (sameR_ct s21 sl R L w0 _ (hR ()).any (hL ()).any (fun x h => (hRx x h).any) (fun x h => (hLx x h).any)) (fun v129 H129 r129 => ?_)
        obtain ⟨rfl, hs129⟩ := r129
        replace mx := mx.nw hs129
        replace hl := hl.nw hs129
        replace hx := fun x hx0 => (hx x hx0).nw hs129
        replace hl2 := hl2.nw hs129
        replace hx2 := fun x hx0 => (hx2 x hx0).nw hs129
        replace hpk := hpk.nw hs129
        replace hm := hm.nw hs129
        replace hxm := fun x hx_ => (hxm x hx_).nw hs129
        replace hm2 := hm2.nw hs129
        replace hxm2 := fun x hx_ => (hxm2 x hx_).nw hs129
        replace hw42 := hw42.nw hs129
        replace hx42 := fun x hx_ => (hx42 x hx_).nw hs129
        replace hlg := hlg.nw hs129
        replace hf := hf.nw hs129
        replace hL := fun u => (hL u).nw hs129
        replace hLx := fun x hL_ => (hLx x hL_).nw hs129
        replace hW := fun u => (hW u).nw hs129
        replace hWx := fun x hW_ => (hWx x hW_).nw hs129
        replace hw105 := hw105.nw hs129
        replace hx105 := fun x hx_ => (hx105 x hx_).nw hs129
        replace hR := fun u => (hR u).nw hs129
        replace hRx := fun x hR_ => (hRx x hR_).nw hs129
        replace hm0 := hm0.tr hs129
        have hz34 := hs129.size
        refine LR.v (Y.notp rfl rfl) (Wd.g rfl rfl rfl) rfl rfl ?_
        refine LR.v (Y.move rfl rfl) (Wd.g rfl rfl rfl) rfl rfl ?_
        refine LR.splitp (d := 131) rfl (fun g131 => ?_) (fun g131 => ?_)
        ·
          refine LR.v (Y.move rfl rfl) (Wd.g rfl rfl rfl) rfl rfl ?_
          refine LR.v (Y.move rfl rfl) (Wd.g rfl rfl rfl) rfl rfl ?_
          -- call selvage/selvagelaw3.sameRows
          refine LR.call rfl Tryz.call13 rfl (Wd.g rfl rfl rfl) rfl rfl (sameR_ct s21 sw R W w0 _ (hR ()).any (hW ()).any (fun x h => (hRx x h).any) (fun x h => (hWx x h).any)) (fun v134 H134 r134 => ?_)
          obtain ⟨rfl, hs134⟩ := r134
          replace mx := mx.nw hs134
          replace hl := hl.nw hs134
          replace hx := fun x hx0 => (hx x hx0).nw hs134
          replace hl2 := hl2.nw hs134
          replace hx2 := fun x hx0 => (hx2 x hx0).nw hs134
          replace hpk := hpk.nw hs134
          replace hm := hm.nw hs134
          replace hxm := fun x hx_ => (hxm x hx_).nw hs134
          replace hm2 := hm2.nw hs134
          replace hxm2 := fun x hx_ => (hxm2 x hx_).nw hs134
          replace hw42 := hw42.nw hs134
          replace hx42 := fun x hx_ => (hx42 x hx_).nw hs134
          replace hlg := hlg.nw hs134
          replace hf := hf.nw hs134
          replace hL := fun u => (hL u).nw hs134
          replace hLx := fun x hL_ => (hLx x hL_).nw hs134
          replace hW := fun u => (hW u).nw hs134
          replace hWx := fun x hW_ => (hWx x hW_).nw hs134
          replace hw105 := hw105.nw hs134
          replace hx105 := fun x hx_ => (hx105 x hx_).nw hs134
          replace hR := fun u => (hR u).nw hs134
          replace hRx := fun x hR_ => (hRx x hR_).nw hs134
          replace hm0 := hm0.tr hs134
          have hz35 := hs134.size
          rw [decide_eq_true (show recs R = recs W from hXe.elim (fun e => absurd (hRX.trans e) g131) (fun e => hRX.trans e))]
          refine LR.v (Y.not rfl rfl) (Wd.g rfl rfl rfl) rfl rfl ?_
          refine LR.v (Y.pick_t rfl rfl rfl) (Wd.g rfl rfl rfl) rfl rfl ?_
          refine LR.v (Y.pick_f rfl rfl rfl) (Wd.u rfl) rfl rfl ?_
          refine LR.nil ?_
          refine hK41 _ _ ?_
          refine CW.cond_f rfl ?_
          refine CW.skip ?_
          refine hK40 _ _ ?_
          refine CW.seq (fun K42 hK42 hE42 => ?_)
          refine CW.region ?_
          refine LR.v (Y.move rfl rfl) (Wd.u rfl) rfl rfl ?_
          -- call selvage/wal.Open
          refine LR.call rfl Tryz.call9 rfl (Wd.u rfl) rfl rfl (wopen_ok mx_ Q7 g123 b31 (D7.stop 0) [100, 47, 106] _ w0 _ hf mx (bf_mx.mono (by omega)) (df543) (by decide) hS123 (by omega) z1) (fun v140 H140 r140 => ?_)
          have ql564 := hlg.le
          have ql565 := hf.bk
          obtain ⟨lb140, t140, l140, Q140, g140, G140, rfl, hf, hkd140, hlh, hkl140, dl2140, hrl140, hw140, hx140, hGb140, hGf140, hGk140, hGl140, hs140⟩ := r140
          have df566 := DFL.appK (df543) (bf_mx.mono hm0.size) hkd140
          have df567 := DFL.appK (df544) (bf_hl.mono hm0.size) hkd140
          have df568 := DFL.appK (df545) (bf_hx.mono hm0.size) hkd140
          have df569 := DFL.appK (df546) (bf_hl2.mono hm0.size) hkd140
          have df570 := DFL.appK (df547) (bf_hx2.mono hm0.size) hkd140
          have df571 := DFL.appK (df548) (bf_hpk.mono hm0.size) hkd140
          have df572 := DFL.appK (df549) (bf_hm.mono (by omega)) hkd140
          have df573 := DFL.appK (df550) (bf_hxm.mono (by omega)) hkd140
          have df574 := DFL.appK (df551) (bf_hm2.mono (by omega)) hkd140
          have df575 := DFL.appK (df552) (bf_hxm2.mono (by omega)) hkd140
          have df576 := DFL.appK (df553) (bf_hw42.mono (by omega)) hkd140
          have df577 := DFL.appK (df554) (bf_hx42.mono (by omega)) hkd140
          have dj578 : DL kl105 Q140 := DL.appK (dj555) ql564 hkd140
          have df579 := DFL.appK (df556) (bf_hL.mono (by omega)) hkd140
          have df580 := DFL.appK (df557) (bf_hLx.mono (by omega)) hkd140
          have df581 := DFL.appK (df558) (bf_hW.mono (by omega)) hkd140
          have df582 := DFL.appK (df559) (bf_hWx.mono (by omega)) hkd140
          have df583 := DFL.appK (df560) (bf_hw105.mono (by omega)) hkd140
          have df584 := DFL.appK (df561) (bf_hx105.mono (by omega)) hkd140
          have df585 := DFL.appK (fgr) (bf_hR.mono (by omega)) hkd140
          have df586 := DFL.appK (fgr2) (bf_hRx.mono (by omega)) hkd140
          have nx587 : NxK [] H0.size Q140 := NxK.tr (nx562) hkd140 hm0.size
          have df588 := DF.app (DF.z) (bf_mx.mono hm0.size) hkl140
          have df589 := DF.app (DF.z) (bf_hl.mono hm0.size) hkl140
          have df590 := DF.app (DF.z) (bf_hx.mono hm0.size) hkl140
          have df591 := DF.app (DF.z) (bf_hl2.mono hm0.size) hkl140
          have df592 := DF.app (DF.z) (bf_hx2.mono hm0.size) hkl140
          have df593 := DF.app (DF.z) (bf_hpk.mono hm0.size) hkl140
          have df594 := DF.app (DF.z) (bf_hm.mono (by omega)) hkl140
          have df595 := DF.app (DF.z) (bf_hxm.mono (by omega)) hkl140
          have df596 := DF.app (DF.z) (bf_hm2.mono (by omega)) hkl140
          have df597 := DF.app (DF.z) (bf_hxm2.mono (by omega)) hkl140
          have df598 := DF.app (DF.z) (bf_hw42.mono (by omega)) hkl140
          have df599 := DF.app (DF.z) (bf_hx42.mono (by omega)) hkl140
          have dj600 : Dj kl105 (lb140 + 1) := Dj.app (Dj.z) ql564 hkl140
          have dj601 : DL (lb140 + 1) Q7 := DL.app2 (DL.zK) ql565 hkl140
          have df602 := DF.app (DF.z) (bf_hL.mono (by omega)) hkl140
          have df603 := DF.app (DF.z) (bf_hLx.mono (by omega)) hkl140
          have df604 := DF.app (DF.z) (bf_hW.mono (by omega)) hkl140
          have df605 := DF.app (DF.z) (bf_hWx.mono (by omega)) hkl140
          have df606 := DF.app (DF.z) (bf_hw105.mono (by omega)) hkl140
          have df607 := DF.app (DF.z) (bf_hx105.mono (by omega)) hkl140
          have df608 := DF.app (DF.z) (bf_hR.mono (by omega)) hkl140
          have df609 := DF.app (DF.z) (bf_hRx.mono (by omega)) hkl140
          have nx610 : Nx 0 H0.size (lb140 + 1) := Nx.tr (Nx.refl 0 _) hkl140 hm0.size
          replace mx := mx.upL hs140 (df543)
          replace hl := hl.upL hs140 (df544)
          replace hx := fun x hx0 => (hx x hx0).upL hs140 (df545)
          replace hl2 := hl2.upL hs140 (df546)
          replace hx2 := fun x hx0 => (hx2 x hx0).upL hs140 (df547)
          replace hpk := hpk.upL hs140 (df548)
          replace hm := hm.upL hs140 (df549)
          replace hxm := fun x hx_ => (hxm x hx_).upL hs140 (df550)
          replace hm2 := hm2.upL hs140 (df551)
          replace hxm2 := fun x hx_ => (hxm2 x hx_).upL hs140 (df552)
          replace hw42 := hw42.upL hs140 (df553)
          replace hx42 := fun x hx_ => (hx42 x hx_).upL hs140 (df554)
          replace hlg := hlg.upL hs140 (dj555)
          replace hL := fun u => (hL u).upL hs140 (df556)
          replace hLx := fun x hL_ => (hLx x hL_).upL hs140 (df557)
          replace hW := fun u => (hW u).upL hs140 (df558)
          replace hWx := fun x hW_ => (hWx x hW_).upL hs140 (df559)
          replace hw105 := hw105.upL hs140 (df560)
          replace hx105 := fun x hx_ => (hx105 x hx_).upL hs140 (df561)
          replace hR := fun u => (hR u).upL hs140 (fgr)
          replace hRx := fun x hR_ => (hRx x hR_).upL hs140 (fgr2)
          replace hm0 := (Mo.trL (ks := []) (hm0.mdn []) hs140 (MIL.ofK0 (nx562))).nil
          have hz36 := hs140.size
          have hbk_hf := hf.bk
          have hle_hlh := hlh.le
          have bf_hw140 := hGb140
          have df611 : DF _ kl105 := DF.above hGf140 (by first | exact hle_hlg | exact hlt_hlg | omega)
          have bf_hx140 := hGb140
          have df612 : DF _ kl105 := DF.above hGf140 (by first | exact hle_hlg | exact hlt_hlg | omega)
          have hr2 : recs l140 = recs R := (hrl140.trans z2).trans hRX.symm
          refine LR.v (Y.move rfl rfl) (Wd.u rfl) rfl rfl ?_
          refine LR.v (Y.extract rfl rfl rfl) (Wd.u rfl) rfl rfl ?_
          refine LR.v (Y.extract rfl rfl rfl) (Wd.u rfl) rfl rfl ?_
          refine LR.v (Y.extract rfl rfl rfl) (Wd.u rfl) rfl rfl ?_
          refine LR.v (Y.assign rfl rfl) (Wd.u rfl) rfl rfl ?_
          refine LR.v (Y.assign rfl rfl) (Wd.u rfl) rfl rfl ?_
          refine LR.v (Y.assign rfl rfl) (Wd.u rfl) rfl rfl ?_
          refine LR.nil ?_
          refine hK42 _ _ ?_
          refine CW.seq (fun K43 hK43 hE43 => ?_)
          refine CW.region ?_
          refine LR.v (Y.move rfl rfl) (Wd.u rfl) rfl rfl ?_
          refine LR.v ((Y.eql rfl rfl rfl).isT (rfl)) (Wd.u rfl) rfl rfl ?_
          refine LR.v (Y.move rfl rfl) (Wd.u rfl) rfl rfl ?_
          refine LR.v (Y.move rfl rfl) (Wd.g rfl rfl rfl) rfl rfl ?_
          refine LR.v (Y.move rfl rfl) (Wd.g rfl rfl rfl) rfl rfl ?_
          -- call selvage/selvagelaw3.sameRows
          refine LR.call rfl Tryz.call13 rfl (Wd.g rfl rfl rfl) rfl rfl (sameR_ct s21 t140 R l140 w0 _ (hR ()).any hw140.any (fun x h => (hRx x h).any) (fun x h => (hx140 x h).any)) (fun v149 H149 r149 => ?_)
          obtain ⟨rfl, hs149⟩ := r149
          replace mx := mx.nw hs149
          replace hl := hl.nw hs149
          replace hx := fun x hx0 => (hx x hx0).nw hs149
          replace hl2 := hl2.nw hs149
          replace hx2 := fun x hx0 => (hx2 x hx0).nw hs149
          replace hpk := hpk.nw hs149
          replace hm := hm.nw hs149
          replace hxm := fun x hx_ => (hxm x hx_).nw hs149
          replace hm2 := hm2.nw hs149
          replace hxm2 := fun x hx_ => (hxm2 x hx_).nw hs149
          replace hw42 := hw42.nw hs149
          replace hx42 := fun x hx_ => (hx42 x hx_).nw hs149
          replace hlg := hlg.nw hs149
          replace hf := hf.nw hs149
          replace hL := fun u => (hL u).nw hs149
          replace hLx := fun x hL_ => (hLx x hL_).nw hs149
          replace hW := fun u => (hW u).nw hs149
          replace hWx := fun x hW_ => (hWx x hW_).nw hs149
          replace hw105 := hw105.nw hs149
          replace hx105 := fun x hx_ => (hx105 x hx_).nw hs149
          replace hR := fun u => (hR u).nw hs149
          replace hRx := fun x hR_ => (hRx x hR_).nw hs149
          replace hlh := hlh.nw hs149
          replace hw140 := hw140.nw hs149
          replace hx140 := fun x hx_ => (hx140 x hx_).nw hs149
          replace hm0 := hm0.tr hs149
          have hz37 := hs149.size
          rw [decide_eq_true hr2.symm]
          refine LR.v (Y.pick_t rfl rfl rfl) (Wd.u rfl) rfl rfl ?_
          refine LR.v (Y.assign rfl rfl) (Wd.u rfl) rfl rfl ?_
          refine LR.nil ?_
          refine hK43 _ _ ?_
          refine CW.ret (hret .ret (.inr rfl) _ _ _ (res1 rfl rfl) ?_)
          exact ⟨rfl, hm0⟩
        ·
          refine LR.gs rfl rfl rfl rfl rfl rfl ?_
          refine LR.gs rfl rfl rfl rfl rfl rfl ?_
          refine LR.gs rfl rfl rfl rfl rfl rfl ?_
          refine LR.gs rfl rfl rfl rfl rfl rfl ?_
          refine LR.v (Y.pick_f rfl rfl rfl) (Wd.g rfl rfl rfl) rfl rfl ?_
          refine LR.v (Y.pick_f rfl rfl rfl) (Wd.u rfl) rfl rfl ?_
          refine LR.nil ?_
          refine hK41 _ _ ?_
          refine CW.cond_f rfl ?_
          refine CW.skip ?_
          refine hK40 _ _ ?_
          refine CW.seq (fun K44 hK44 hE44 => ?_)
          refine CW.region ?_
          refine LR.v (Y.move rfl rfl) (Wd.u rfl) rfl rfl ?_
          -- call selvage/wal.Open
          refine LR.call rfl Tryz.call9 rfl (Wd.u rfl) rfl rfl (wopen_ok mx_ Q7 g123 b31 (D7.stop 0) [100, 47, 106] _ w0 _ hf mx (bf_mx.mono (by omega)) (df543) (by decide) hS123 (by omega) z1) (fun v140 H140 r140 => ?_)
          have ql613 := hlg.le
          have ql614 := hf.bk
          obtain ⟨lb140, t140, l140, Q140, g140, G140, rfl, hf, hkd140, hlh, hkl140, dl2140, hrl140, hw140, hx140, hGb140, hGf140, hGk140, hGl140, hs140⟩ := r140
          have df615 := DFL.appK (df543) (bf_mx.mono hm0.size) hkd140
          have df616 := DFL.appK (df544) (bf_hl.mono hm0.size) hkd140
          have df617 := DFL.appK (df545) (bf_hx.mono hm0.size) hkd140
          have df618 := DFL.appK (df546) (bf_hl2.mono hm0.size) hkd140
          have df619 := DFL.appK (df547) (bf_hx2.mono hm0.size) hkd140
          have df620 := DFL.appK (df548) (bf_hpk.mono hm0.size) hkd140
          have df621 := DFL.appK (df549) (bf_hm.mono (by omega)) hkd140
          have df622 := DFL.appK (df550) (bf_hxm.mono (by omega)) hkd140
          have df623 := DFL.appK (df551) (bf_hm2.mono (by omega)) hkd140
          have df624 := DFL.appK (df552) (bf_hxm2.mono (by omega)) hkd140
          have df625 := DFL.appK (df553) (bf_hw42.mono (by omega)) hkd140
          have df626 := DFL.appK (df554) (bf_hx42.mono (by omega)) hkd140
          have dj627 : DL kl105 Q140 := DL.appK (dj555) ql613 hkd140
          have df628 := DFL.appK (df556) (bf_hL.mono (by omega)) hkd140
          have df629 := DFL.appK (df557) (bf_hLx.mono (by omega)) hkd140
          have df630 := DFL.appK (df558) (bf_hW.mono (by omega)) hkd140
          have df631 := DFL.appK (df559) (bf_hWx.mono (by omega)) hkd140
          have df632 := DFL.appK (df560) (bf_hw105.mono (by omega)) hkd140
          have df633 := DFL.appK (df561) (bf_hx105.mono (by omega)) hkd140
          have df634 := DFL.appK (fgr) (bf_hR.mono (by omega)) hkd140
          have df635 := DFL.appK (fgr2) (bf_hRx.mono (by omega)) hkd140
          have nx636 : NxK [] H0.size Q140 := NxK.tr (nx562) hkd140 hm0.size
          have df637 := DF.app (DF.z) (bf_mx.mono hm0.size) hkl140
          have df638 := DF.app (DF.z) (bf_hl.mono hm0.size) hkl140
          have df639 := DF.app (DF.z) (bf_hx.mono hm0.size) hkl140
          have df640 := DF.app (DF.z) (bf_hl2.mono hm0.size) hkl140
          have df641 := DF.app (DF.z) (bf_hx2.mono hm0.size) hkl140
          have df642 := DF.app (DF.z) (bf_hpk.mono hm0.size) hkl140
          have df643 := DF.app (DF.z) (bf_hm.mono (by omega)) hkl140
          have df644 := DF.app (DF.z) (bf_hxm.mono (by omega)) hkl140
          have df645 := DF.app (DF.z) (bf_hm2.mono (by omega)) hkl140
          have df646 := DF.app (DF.z) (bf_hxm2.mono (by omega)) hkl140
          have df647 := DF.app (DF.z) (bf_hw42.mono (by omega)) hkl140
          have df648 := DF.app (DF.z) (bf_hx42.mono (by omega)) hkl140
          have dj649 : Dj kl105 (lb140 + 1) := Dj.app (Dj.z) ql613 hkl140
          have dj650 : DL (lb140 + 1) Q7 := DL.app2 (DL.zK) ql614 hkl140
          have df651 := DF.app (DF.z) (bf_hL.mono (by omega)) hkl140
          have df652 := DF.app (DF.z) (bf_hLx.mono (by omega)) hkl140
          have df653 := DF.app (DF.z) (bf_hW.mono (by omega)) hkl140
          have df654 := DF.app (DF.z) (bf_hWx.mono (by omega)) hkl140
          have df655 := DF.app (DF.z) (bf_hw105.mono (by omega)) hkl140
          have df656 := DF.app (DF.z) (bf_hx105.mono (by omega)) hkl140
          have df657 := DF.app (DF.z) (bf_hR.mono (by omega)) hkl140
          have df658 := DF.app (DF.z) (bf_hRx.mono (by omega)) hkl140
          have nx659 : Nx 0 H0.size (lb140 + 1) := Nx.tr (Nx.refl 0 _) hkl140 hm0.size
          replace mx := mx.upL hs140 (df543)
          replace hl := hl.upL hs140 (df544)
          replace hx := fun x hx0 => (hx x hx0).upL hs140 (df545)
          replace hl2 := hl2.upL hs140 (df546)
          replace hx2 := fun x hx0 => (hx2 x hx0).upL hs140 (df547)
          replace hpk := hpk.upL hs140 (df548)
          replace hm := hm.upL hs140 (df549)
          replace hxm := fun x hx_ => (hxm x hx_).upL hs140 (df550)
          replace hm2 := hm2.upL hs140 (df551)
          replace hxm2 := fun x hx_ => (hxm2 x hx_).upL hs140 (df552)
          replace hw42 := hw42.upL hs140 (df553)
          replace hx42 := fun x hx_ => (hx42 x hx_).upL hs140 (df554)
          replace hlg := hlg.upL hs140 (dj555)
          replace hL := fun u => (hL u).upL hs140 (df556)
          replace hLx := fun x hL_ => (hLx x hL_).upL hs140 (df557)
          replace hW := fun u => (hW u).upL hs140 (df558)
          replace hWx := fun x hW_ => (hWx x hW_).upL hs140 (df559)
          replace hw105 := hw105.upL hs140 (df560)
          replace hx105 := fun x hx_ => (hx105 x hx_).upL hs140 (df561)
          replace hR := fun u => (hR u).upL hs140 (fgr)
          replace hRx := fun x hR_ => (hRx x hR_).upL hs140 (fgr2)
          replace hm0 := (Mo.trL (ks := []) (hm0.mdn []) hs140 (MIL.ofK0 (nx562))).nil
          have hz38 := hs140.size
          have hbk_hf := hf.bk
          have hle_hlh := hlh.le
          have bf_hw140 := hGb140
          have df660 : DF _ kl105 := DF.above hGf140 (by first | exact hle_hlg | exact hlt_hlg | omega)
          have bf_hx140 := hGb140
          have df661 : DF _ kl105 := DF.above hGf140 (by first | exact hle_hlg | exact hlt_hlg | omega)
          have hr2 : recs l140 = recs R := (hrl140.trans z2).trans hRX.symm
          refine LR.v (Y.move rfl rfl) (Wd.u rfl) rfl rfl ?_
          refine LR.v (Y.extract rfl rfl rfl) (Wd.u rfl) rfl rfl ?_
          refine LR.v (Y.extract rfl rfl rfl) (Wd.u rfl) rfl rfl ?_
          refine LR.v (Y.extract rfl rfl rfl) (Wd.u rfl) rfl rfl ?_
          refine LR.v (Y.assign rfl rfl) (Wd.u rfl) rfl rfl ?_
          refine LR.v (Y.assign rfl rfl) (Wd.u rfl) rfl rfl ?_
          refine LR.v (Y.assign rfl rfl) (Wd.u rfl) rfl rfl ?_
          refine LR.nil ?_
          refine hK44 _ _ ?_
          refine CW.seq (fun K45 hK45 hE45 => ?_)
          refine CW.region ?_
          refine LR.v (Y.move rfl rfl) (Wd.u rfl) rfl rfl ?_
          refine LR.v ((Y.eql rfl rfl rfl).isT (rfl)) (Wd.u rfl) rfl rfl ?_
          refine LR.v (Y.move rfl rfl) (Wd.u rfl) rfl rfl ?_
          refine LR.v (Y.move rfl rfl) (Wd.g rfl rfl rfl) rfl rfl ?_
          refine LR.v (Y.move rfl rfl) (Wd.g rfl rfl rfl) rfl rfl ?_
          -- call selvage/selvagelaw3.sameRows
          refine LR.call rfl Tryz.call13 rfl (Wd.g rfl rfl rfl) rfl rfl (sameR_ct s21 t140 R l140 w0 _ (hR ()).any hw140.any (fun x h => (hRx x h).any) (fun x h => (hx140 x h).any)) (fun v149 H149 r149 => ?_)
          obtain ⟨rfl, hs149⟩ := r149
          replace mx := mx.nw hs149
          replace hl := hl.nw hs149
          replace hx := fun x hx0 => (hx x hx0).nw hs149
          replace hl2 := hl2.nw hs149
          replace hx2 := fun x hx0 => (hx2 x hx0).nw hs149
          replace hpk := hpk.nw hs149
          replace hm := hm.nw hs149
          replace hxm := fun x hx_ => (hxm x hx_).nw hs149
          replace hm2 := hm2.nw hs149
          replace hxm2 := fun x hx_ => (hxm2 x hx_).nw hs149
          replace hw42 := hw42.nw hs149
          replace hx42 := fun x hx_ => (hx42 x hx_).nw hs149
          replace hlg := hlg.nw hs149
          replace hf := hf.nw hs149
          replace hL := fun u => (hL u).nw hs149
          replace hLx := fun x hL_ => (hLx x hL_).nw hs149
          replace hW := fun u => (hW u).nw hs149
          replace hWx := fun x hW_ => (hWx x hW_).nw hs149
          replace hw105 := hw105.nw hs149
          replace hx105 := fun x hx_ => (hx105 x hx_).nw hs149
          replace hR := fun u => (hR u).nw hs149
          replace hRx := fun x hR_ => (hRx x hR_).nw hs149
          replace hlh := hlh.nw hs149
          replace hw140 := hw140.nw hs149
          replace hx140 := fun x hx_ => (hx140 x hx_).nw hs149
          replace hm0 := hm0.tr hs149
          have hz39 := hs149.size
          rw [decide_eq_true hr2.symm]
          refine LR.v (Y.pick_t rfl rfl rfl) (Wd.u rfl) rfl rfl ?_
          refine LR.v (Y.assign rfl rfl) (Wd.u rfl) rfl rfl ?_
          refine LR.nil ?_
          refine hK45 _ _ ?_
          refine CW.ret (hret .ret (.inr rfl) _ _ _ (res1 rfl rfl) ?_)
          exact ⟨rfl, hm0⟩

end Go.Proofs.YtdliddjkacbggaaGreatDoor.WalO
/-
  How the arguments of a statement read, with what their reach says of their sizes: no condition.
-/
namespace Go.Proofs.YtdliddjkacbggaaGreatDoor.E
set_option linter.unusedVariables false
set_option linter.unusedSimpArgs false
set_option linter.unusedSectionVars false
open Go.ChangeShapes Go.WideShapes Go.ChangeAt Go.RowKit Go.Deep
section
variable {H : Type} {enc : TypeId × Value → H} {P : Program} {W : World} {base : Nat} {sp : Nat → Bool} {held : Bool}
theorem mem_weightsAll {e : TypeId} {d : DataW H} : ∀ {ds : List (DataW H)}, d ∈ ds → ∀ n ∈ d.weights P e, n ∈ DataW.weightsAll P e ds
  | x :: ds, h, n, hn => by
    simp only [DataW.weightsAll, List.mem_append]
    rcases List.mem_cons.1 h with rfl | h
    · exact .inl hn
    · exact .inr (mem_weightsAll h n hn)
/-- what a datum weighs lies within the reach -/
def Wt (P : Program) (t : TypeId) (d : DataW H) : Prop := ∀ n ∈ d.weights P t, n ≤ reachBytes
theorem Wt.of {ts : List TypeId} {ds : List (DataW H)} {j : Nat} {t : TypeId} {d : DataW H} (h : (DataW.weightsEach P ts ds).all (· ≤ reachBytes) = true) (ht : ts[j]? = some t) (hd : ds[j]? = some d) : Wt P t d := fun n hn => by
  have := List.all_eq_true.1 h _ (DataW.weights_mem_each ht hd n hn)
  simpa using this
theorem Wt.slice {t e : TypeId} {els spr : List (DataW H)} (hu : P.underlying t = some (.slice e)) (h : Wt P t (.slice els spr)) : (els.length + spr.length) * P.bytesOf e ≤ reachBytes ∧ ∀ x ∈ els, Wt P e x :=
  ⟨h _ (by simp [DataW.weights, hu]), fun x hx n hn => h n (by simp only [DataW.weights, hu, List.mem_cons, List.mem_append]; exact .inr (.inl (mem_weightsAll hx n hn)))⟩
theorem Wt.each {t : TypeId} {fs : Array Field} {ds : List (DataW H)} {j : Nat} {f : TypeId} {d : DataW H} (hu : P.underlying t = some (.struct fs)) (h : Wt P t (.agg ds)) (hf : (fs.toList.map (·.type))[j]? = some f) (hd : ds[j]? = some d) : Wt P f d := fun n hn =>
  h n (by simp only [DataW.weights, hu]; exact DataW.weights_mem_each hf hd n hn)
end
end Go.Proofs.YtdliddjkacbggaaGreatDoor.E
