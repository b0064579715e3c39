/-
  Graphs told by rows of places; the chapter's example.
-/
import Derived.Test.YtepdhokpfecdnaaGraM
namespace Go.Proofs.Ytepdhokpfecdnaa.GraN
open Go.Proofs.Ytepdhokpfecdnaa.E Go.RowKit Go.Proofs.Ytepdhokpfecdnaa.GraA Go.Proofs.Ytepdhokpfecdnaa.GraB Go.Proofs.Ytepdhokpfecdnaa.GraC Go.Proofs.Ytepdhokpfecdnaa.GraD Go.Proofs.Ytepdhokpfecdnaa.GraE Go.Proofs.Ytepdhokpfecdnaa.GraF Go.Proofs.Ytepdhokpfecdnaa.GraG Go.Proofs.Ytepdhokpfecdnaa.GraH Go.Proofs.Ytepdhokpfecdnaa.GraI Go.Proofs.Ytepdhokpfecdnaa.GraJ Go.Proofs.Ytepdhokpfecdnaa.GraK Go.Proofs.Ytepdhokpfecdnaa.GraL Go.Proofs.Ytepdhokpfecdnaa.GraM
set_option maxRecDepth 20000
set_option linter.unusedVariables false
set_option linter.unusedSimpArgs false
set_option linter.unusedSectionVars false

/-- a graph without rounds -/
structure GOk (g : List (List Nat)) : Prop where
  le : g.length ≤ 1000
  lt : ∀ n (h : n < g.length), ∀ k ∈ g[n], k < n
  deg : ∀ n (h : n < g.length), (g[n]).length ≤ 1000
section
variable {g : List (List Nat)} {a b k : Nat} {i j : Ide}
theorem GOk.pa (hg : GOk g) (ha : a < g.length) : paL g (idn a) = some ((g[a]).map idn) := paL_at (by have := hg.le; omega) ha
theorem GOk.inj (hg : GOk g) (ha : a ≤ g.length) (hb : b ≤ g.length) (h : idn a = idn b) : a = b := idn_inj (by have := hg.le; omega) (by have := hg.le; omega) h
/-- what stands above a place is a place, not behind it -/
theorem GOk.up (hg : GOk g) (ha : a < g.length) (h : UpO (paL g) (idn a) j) : ∃ k, k ≤ a ∧ j = idn k := by
  induction h with
  | refl => exact ⟨a, Nat.le_refl _, rfl⟩
  | @step j p ps _ hq hp ih =>
    obtain ⟨k, hk, rfl⟩ := ih
    have hkl : k < g.length := by omega
    rw [hg.pa hkl] at hq
    cases hq
    obtain ⟨q, hq2, rfl⟩ := List.mem_map.1 hp
    have := hg.lt k hkl q hq2
    exact ⟨q, by omega, rfl⟩
theorem GOk.step (hg : GOk g) (ha : a < g.length) (hk : k ∈ g[a]) (h : UpO (paL g) (idn k) j) : UpO (paL g) (idn a) j :=
  UpO.trans (UpO.step .refl (hg.pa ha) (List.mem_map.2 ⟨k, hk, rfl⟩)) h
theorem GOk.first (hg : GOk g) (ha : a < g.length) (h : UpO (paL g) (idn a) j) : j = idn a ∨ ∃ k ∈ g[a], UpO (paL g) (idn k) j := by
  rcases upo_first h with e | ⟨ps, p, h1, h2, h3⟩
  · exact .inl e.symm
  · rw [hg.pa ha] at h1
    cases h1
    obtain ⟨k, hk, rfl⟩ := List.mem_map.1 h2
    exact .inr ⟨k, hk, h3⟩
/-- a rank -/
def rkL (g : List (List Nat)) (i : Ide) : Nat := ((List.range g.length).find? (fun n => decide (idn n = i))).getD 0
theorem GOk.rk (hg : GOk g) (ha : a < g.length) : rkL g (idn a) = a := by
  unfold rkL
  have : (List.range g.length).find? (fun n => decide (idn n = idn a)) = some a := by
    rw [List.find?_range_eq_some]
    exact ⟨by simp, by simpa using ha, fun j hj => by simpa using fun e => by have := hg.inj (by omega) (by omega) e; omega⟩
  rw [this]; rfl
theorem GOk.told (hg : GOk g) {ps : List Ide} (h : paL g i = some ps) : ∃ a, ∃ h : a < g.length, i = idn a ∧ ps = (g[a]).map idn := by
  unfold paL at h
  rw [Option.map_eq_some_iff] at h
  obtain ⟨n, h1, rfl⟩ := h
  rw [List.find?_range_eq_some] at h1
  have hn : n < g.length := by simpa using h1.2.1
  exact ⟨n, hn, by have := h1.1; simp only [decide_eq_true_eq] at this; exact this.symm, by rw [List.getD_eq_getElem?_getD, List.getElem?_eq_getElem hn]; rfl⟩
theorem GOk.ac (hg : GOk g) : ∀ k ps, paL g k = some ps → ∀ p ∈ ps, rkL g p < rkL g k := by
  intro k ps h p hp
  obtain ⟨a, ha, rfl, rfl⟩ := hg.told h
  obtain ⟨q, hq, rfl⟩ := List.mem_map.1 hp
  have := hg.lt a ha q hq
  rw [hg.rk ha, hg.rk (by omega)]; exact this
/-- of places that there are all that stand above them are told -/
theorem GOk.ok (hg : GOk g) {st K : List Ide} {e : Nat} (hst : ∀ i ∈ st, ∃ a, a < g.length ∧ i = idn a) (h : AllR (paL g) st K e) : e = 0 := by
  have hr : ∀ k, (∃ i ∈ st, UpO (paL g) i k) → ∃ a, a < g.length ∧ k = idn a := by
    rintro k ⟨i, hi, hu⟩
    obtain ⟨a, ha, rfl⟩ := hst i hi
    obtain ⟨b, hb, rfl⟩ := hg.up ha hu
    exact ⟨b, by omega, rfl⟩
  rcases h with ⟨h, _⟩ | ⟨_, k, hk, hn⟩ | ⟨_, K2, hd, hl, hK, _⟩
  · exact h
  · obtain ⟨a, ha, rfl⟩ := hr k hk
    rw [hg.pa ha] at hn; cases hn
  · have := nodup_le (b := (List.range g.length).map idn) hd (fun k hk => by
      obtain ⟨a, ha, rfl⟩ := hr k (hK k hk).1
      exact List.mem_map.2 ⟨a, by simpa using ha, rfl⟩)
    rw [List.length_map, List.length_range] at this
    have := hg.le
    omega
/-- what stands above, by places -/
def clo (g : List (List Nat)) : Nat → Nat → List Nat
  | 0, _ => []
  | f + 1, a => a :: (g.getD a []).flatMap (clo g f)
theorem GOk.clo_iff (hg : GOk g) : ∀ (f a : Nat), a < f → a < g.length → ∀ k, k ≤ g.length → (UpO (paL g) (idn a) (idn k) ↔ k ∈ clo g f a)
  | 0, a, h, _, _, _ => by omega
  | f + 1, a, hf, ha, k, hk => by
    have hgd : g.getD a [] = g[a] := by rw [List.getD_eq_getElem?_getD, List.getElem?_eq_getElem ha]; rfl
    rw [clo, hgd, List.mem_cons, List.mem_flatMap]
    constructor
    · intro h
      rcases hg.first ha h with e | ⟨q, hq, hu⟩
      · exact .inl (hg.inj hk (by omega) e)
      · have hlt := hg.lt a ha q hq
        exact .inr ⟨q, hq, (hg.clo_iff f q (by omega) (by omega) k hk).1 hu⟩
    · rintro (rfl | ⟨q, hq, hu⟩)
      · exact .refl
      · have hlt := hg.lt a ha q hq
        exact hg.step ha hq ((hg.clo_iff f q (by omega) (by omega) k hk).2 hu)
end
section
variable {g : List (List Nat)}
theorem GOk.getD (hg : GOk g) {a : Nat} (ha : a < g.length) : g.getD a [] = g[a] := by rw [List.getD_eq_getElem?_getD, List.getElem?_eq_getElem ha]; rfl
end
def KN : List (List Nat) := [[], [0], [0], [1, 2]]
theorem knOk : GOk KN := ⟨by decide, by decide, by decide⟩
theorem kn_best12 (k : Ide) : Best (paL KN) (idn 1) (idn 2) k ↔ k = idn 0 := by
  have up : ∀ a k, a < 4 → k < 4 → (UpO (paL KN) (idn a) (idn k) ↔ k ∈ clo KN 4 a) := fun a k ha hk => knOk.clo_iff 4 a ha ha k (by show k ≤ 4; omega)
  constructor
  · rintro ⟨⟨h1, h2⟩, _⟩
    obtain ⟨n, hn, rfl⟩ := knOk.up (show 1 < KN.length by decide) h1
    have m1 := (up 1 n (by omega) (by omega)).1 h1
    have m2 := (up 2 n (by omega) (by omega)).1 h2
    match n, hn, m1, m2 with
    | 0, _, _, _ => rfl
    | 1, _, _, m2 => exact absurd m2 (by decide)
  · rintro rfl
    refine ⟨⟨(up 1 0 (by omega) (by omega)).2 (by decide), (up 2 0 (by omega) (by omega)).2 (by decide)⟩, ?_⟩
    rintro j ⟨h1, h2⟩ _
    obtain ⟨n, hn, rfl⟩ := knOk.up (show 1 < KN.length by decide) h1
    have m1 := (up 1 n (by omega) (by omega)).1 h1
    have m2 := (up 2 n (by omega) (by omega)).1 h2
    match n, hn, m1, m2 with
    | 0, _, _, _ => rfl
    | 1, _, _, m2 => exact absurd m2 (by decide)
theorem kn_best31 (k : Ide) : Best (paL KN) (idn 3) (idn 1) k ↔ k = idn 1 := by
  have up : ∀ a k, a < 4 → k < 4 → (UpO (paL KN) (idn a) (idn k) ↔ k ∈ clo KN 4 a) := fun a k ha hk => knOk.clo_iff 4 a ha ha k (by show k ≤ 4; omega)
  have u31 : UpO (paL KN) (idn 3) (idn 1) := (up 3 1 (by omega) (by omega)).2 (by decide)
  constructor
  · rintro ⟨⟨h1, h2⟩, h3⟩
    exact (h3 (idn 1) ⟨u31, .refl⟩ h2).symm
  · rintro rfl
    refine ⟨⟨u31, .refl⟩, ?_⟩
    rintro j ⟨h1, h2⟩ h3
    obtain ⟨n, hn, rfl⟩ := knOk.up (show 1 < KN.length by decide) h2
    have m1 := (up n 1 (by omega) (by omega)).1 h3
    match n, hn, m1 with
    | 0, _, m1 => exact absurd m1 (by decide)
    | 1, _, _ => rfl
theorem bas_one {pa : Ide → Option (List Ide)} {a b x : Ide} {out : List Ide} {e : Nat} (h : BsR pa a b out e) (hok : ∀ K e, AllR pa [a, b] K e → e = 0) (hb : ∀ k, Best pa a b k ↔ k = x) : e = 0 ∧ out = [x] := by
  rcases h with ⟨h, _, hr, _, hm⟩ | ⟨_, _, _, l, hd, hl, hm⟩ | ⟨h, _, K, hA⟩
  · refine ⟨h, ris_ext hr (List.pairwise_singleton _ _) (fun k => ?_)⟩
    rw [hm, hb]; simp
  · have := nodup_le (b := [x]) hd (fun k hk => by rw [hm, hb] at hk; simp [hk])
    simp at this; omega
  · exact absurd (hok K e hA) h
theorem kn_ord {out : List Ide} (h : Ord (paL KN) [idn 3] [idn 1] out) : out = [idn 2, idn 3] := by
  obtain ⟨K, S, hA, hT, hS⟩ := h
  have up : ∀ a k, a < 4 → k < 4 → (UpO (paL KN) (idn a) (idn k) ↔ k ∈ clo KN 4 a) := fun a k ha hk => knOk.clo_iff 4 a ha ha k (by show k ≤ 4; omega)
  have hm : ∀ k, k ∈ S ↔ k = idn 2 ∨ k = idn 3 := by
    intro k
    rw [hS]
    constructor
    · rintro ⟨⟨i, hi, h1⟩, h2⟩
      rw [List.mem_singleton.1 hi] at h1
      obtain ⟨n, hn, rfl⟩ := knOk.up (show 3 < KN.length by decide) h1
      have h3 : ¬ UpO (paL KN) (idn 1) (idn n) := fun q => h2 ⟨_, by simp, q⟩
      rw [up 1 n (by omega) (by omega)] at h3
      match n, hn, h3 with
      | 0, _, h3 => exact absurd (by decide) h3
      | 1, _, h3 => exact absurd (by decide) h3
      | 2, _, _ => exact .inl rfl
      | 3, _, _ => exact .inr rfl
    · rintro (rfl | rfl)
      · refine ⟨⟨_, by simp, (up 3 2 (by omega) (by omega)).2 (by decide)⟩, ?_⟩
        rintro ⟨i, hi, h1⟩
        rw [List.mem_singleton.1 hi, up 1 2 (by omega) (by omega)] at h1
        exact absurd h1 (by decide)
      · refine ⟨⟨_, by simp, .refl⟩, ?_⟩
        rintro ⟨i, hi, h1⟩
        rw [List.mem_singleton.1 hi, up 1 3 (by omega) (by omega)] at h1
        exact absurd h1 (by decide)
  have h3K : idn 3 ∈ K := (all0 hA).2.2.1 _ (by simp)
  have hpa3 : cpa (paL KN) K (idn 3) = [idn 1, idn 2] := by
    have := cpa_in hA h3K
    rw [knOk.pa (show 3 < KN.length by decide)] at this
    exact (Option.some.inj this).symm
  have ne : idn 2 ≠ idn 3 := fun e => by have := knOk.inj (show 2 ≤ KN.length by decide) (show 3 ≤ KN.length by decide) e; omega
  have l1 : out.length ≤ 2 := nodup_le (b := [idn 2, idn 3]) hT.dnd (fun k hk => by have := (hm k).1 (hT.dsub k hk); simpa using this)
  have l2 : 2 ≤ out.length := nodup_le (a := [idn 2, idn 3]) (by simp [ne]) (fun k hk => hT.all k ((hm k).2 (by simpa using hk)))
  match out, l1, l2, hT with
  | [x, y], _, _, hT =>
    have hx := (hm x).1 (hT.dsub x (by simp))
    have hy := (hm y).1 (hT.dsub y (by simp))
    have hd := hT.dnd
    simp only [List.nodup_cons, List.mem_singleton, List.not_mem_nil, not_false_eq_true, List.nodup_nil, and_true] at hd
    rcases hx with rfl | rfl
    · rcases hy with rfl | rfl
      · exact absurd rfl hd
      · rfl
    · have := hT.par 0 (by simp) (idn 2) (by show idn 2 ∈ cpa (paL KN) K (idn 3); rw [hpa3]; simp) ((hm _).2 (.inl rfl))
      cases this

end Go.Proofs.Ytepdhokpfecdnaa.GraN
