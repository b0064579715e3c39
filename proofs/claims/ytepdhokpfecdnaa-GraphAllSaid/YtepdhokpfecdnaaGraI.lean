/-
  Whether a commit stands above another one; how long the longest way up is.
-/
import Derived.Test.YtepdhokpfecdnaaGraH
namespace Go.Proofs.Ytepdhokpfecdnaa.GraI
open Go.Proofs.Ytepdhokpfecdnaa.E Go.RowKit Go.Proofs.Ytepdhokpfecdnaa.GraA Go.Proofs.Ytepdhokpfecdnaa.GraB Go.Proofs.Ytepdhokpfecdnaa.GraC Go.Proofs.Ytepdhokpfecdnaa.GraD Go.Proofs.Ytepdhokpfecdnaa.GraE Go.Proofs.Ytepdhokpfecdnaa.GraF Go.Proofs.Ytepdhokpfecdnaa.GraG Go.Proofs.Ytepdhokpfecdnaa.GraH
set_option maxRecDepth 20000
set_option linter.unusedVariables false
set_option linter.unusedSimpArgs false
set_option linter.unusedSectionVars false
set_option maxRecDepth 100000 in
theorem inf28 : Inf Try.prog 28 30 32 32 := ⟨Try.underlying28, _, _, rfl, rfl, rfl, rfl, rfl⟩
set_option maxRecDepth 100000 in
theorem inf92 : Inf Try.prog 92 28 1 24 := ⟨Try.underlying92, _, _, rfl, rfl, rfl, rfl, rfl⟩

theorem Ow.ne {α : Type} {k sb : Nat} {e : TypeId} {H : Heap} {f : α → List Value} {sz : Nat} {v : Value} {l : List α} (x : Ow k e H f sz v l) (d : Dj (sb + 1) k) : Rd (fun b => b ≠ sb) H f sz v l := x.rd.imp (fun b _ e e2 => d b (by rw [e2]) e)
theorem Up.trans {pa : Ide → List Ide} {i j k : Ide} (h : Up pa i j) (h2 : Up pa j k) : Up pa i k := by
  induction h2 with
  | refl => exact h
  | step _ hp ih => exact ih.step hp
theorem UpO.trans {pa : Ide → Option (List Ide)} {i j k : Ide} (h : UpO pa i j) (h2 : UpO pa j k) : UpO pa i k := by
  induction h2 with
  | refl => exact h
  | step _ hq hp ih => exact ih.step hq hp
section
variable {pa : Ide → Option (List Ide)} {st K : List Ide}
theorem all0 (h : AllR pa st K 0) : K.Nodup ∧ (∀ k ∈ K, ∃ ps, pa k = some ps ∧ ∀ p ∈ ps, p ∈ K) ∧ (∀ k ∈ st, k ∈ K) ∧ (∀ k ∈ K, ∃ i ∈ st, UpO pa i k) ∧ K.length ≤ 5000 := by
  rcases h with ⟨_, h⟩ | ⟨h, _⟩ | ⟨h, _⟩
  · exact h
  · cases h
  · cases h
/-- within the commits that were told, above is above -/
theorem up_iff (h : AllR pa st K 0) {i k : Ide} (hi : i ∈ K) : Up (cpa pa K) i k ↔ UpO pa i k := by
  obtain ⟨_, h1, _⟩ := all0 h
  constructor
  · intro hu
    have key : UpO pa i k ∧ k ∈ K := by
      induction hu with
      | refl => exact ⟨.refl, hi⟩
      | @step j p _ hp ih =>
        obtain ⟨ps, e1, e2⟩ := h1 j ih.2
        unfold cpa at hp
        rw [if_pos ih.2, e1] at hp
        exact ⟨ih.1.step e1 hp, e2 p hp⟩
    exact key.1
  · intro hu
    have key : Up (cpa pa K) i k ∧ k ∈ K := by
      induction hu with
      | refl => exact ⟨.refl, hi⟩
      | @step j p ps _ hq hp ih =>
        obtain ⟨qs, e1, e2⟩ := h1 j ih.2
        rw [e1] at hq
        cases hq
        exact ⟨ih.1.step (by unfold cpa; rw [if_pos ih.2, e1]; exact hp), e2 p hp⟩
    exact key.1
theorem cpa_ac {rk : Ide → Nat} (hac : ∀ k ps, pa k = some ps → ∀ p ∈ ps, rk p < rk k) : ∀ k, ∀ p ∈ cpa pa K k, rk p < rk k := by
  intro k p hp
  unfold cpa at hp
  split at hp
  · cases h : pa k with
    | none => rw [h] at hp; cases hp
    | some ps => rw [h] at hp; exact hac k ps h p hp
  · cases hp
end
end Go.Proofs.Ytepdhokpfecdnaa.GraI
