/-
  From all commits on, up to none, and up to one.
-/
import Derived.Test.YtepdhokpfecdnaaGraR
namespace Go.Proofs.Ytepdhokpfecdnaa.GraS
open Go.Proofs.Ytepdhokpfecdnaa.E Go.RowKit Go.Proofs.Ytepdhokpfecdnaa.GraA Go.Proofs.Ytepdhokpfecdnaa.GraB Go.Proofs.Ytepdhokpfecdnaa.GraC Go.Proofs.Ytepdhokpfecdnaa.GraD Go.Proofs.Ytepdhokpfecdnaa.GraE Go.Proofs.Ytepdhokpfecdnaa.GraF Go.Proofs.Ytepdhokpfecdnaa.GraG Go.Proofs.Ytepdhokpfecdnaa.GraH Go.Proofs.Ytepdhokpfecdnaa.GraI Go.Proofs.Ytepdhokpfecdnaa.GraJ Go.Proofs.Ytepdhokpfecdnaa.GraK Go.Proofs.Ytepdhokpfecdnaa.GraL Go.Proofs.Ytepdhokpfecdnaa.GraM Go.Proofs.Ytepdhokpfecdnaa.GraN Go.Proofs.Ytepdhokpfecdnaa.GraO Go.Proofs.Ytepdhokpfecdnaa.GraP Go.Proofs.Ytepdhokpfecdnaa.GraQ Go.Proofs.Ytepdhokpfecdnaa.GraR
set_option maxRecDepth 20000
set_option linter.unusedVariables false
set_option linter.unusedSimpArgs false
set_option linter.unusedSectionVars false
set_option maxRecDepth 100000 in
theorem inf28 : Inf Try.prog 28 30 32 32 := ⟨Try.underlying28, _, _, rfl, rfl, rfl, rfl, rfl⟩

theorem ord_mem {pa : Ide → Option (List Ide)} {fr un out : List Ide} (h : Ord pa fr un out) : out.Nodup ∧ ∀ k, k ∈ out ↔ (∃ i ∈ fr, UpO pa i k) ∧ ¬ ∃ i ∈ un, UpO pa i k := by
  obtain ⟨K, S, _, hT, hS⟩ := h
  exact ⟨hT.dnd, fun k => by rw [← hS]; exact ⟨hT.dsub k, hT.all k⟩⟩
section
variable {g : List (List Nat)}
abbrev allI (n : Nat) : List Ide := (List.range n).map idn
theorem GOk.nodup (hg : GOk g) {n : Nat} (hn : n ≤ g.length) : (allI n).Nodup := by
  rw [List.nodup_iff_pairwise_ne, List.pairwise_map]
  refine (List.nodup_iff_pairwise_ne.1 List.nodup_range).imp_of_mem ?_
  intro a b ha hb hne e
  rw [List.mem_range] at ha hb
  exact hne (hg.inj (by omega) (by omega) e)
theorem GOk.ups (hg : GOk g) (k : Ide) : (∃ i ∈ allI g.length, UpO (paL g) i k) ↔ k ∈ allI g.length := by
  constructor
  · rintro ⟨i, hi, hu⟩
    obtain ⟨a, ha, rfl⟩ := List.mem_map.1 hi
    rw [List.mem_range] at ha
    obtain ⟨b, hb, rfl⟩ := hg.up ha hu
    exact List.mem_map.2 ⟨b, by simp; omega, rfl⟩
  · intro h; exact ⟨k, h, .refl⟩
theorem GOk.split (hg : GOk g) {i : Ide} {q r : List Ide} (hi : i ∈ allI g.length) (h1 : Ord (paL g) (allI g.length) [i] q) (h2 : Ord (paL g) [i] [] r) : q.length + r.length = g.length ∧ ∀ k, k ∈ q → k ∈ r → False := by
  obtain ⟨hd1, hm1⟩ := ord_mem h1
  obtain ⟨hd2, hm2⟩ := ord_mem h2
  have h3 : ∀ k, k ∈ q → k ∈ r → False := fun k hk hk2 => by
    have a1 := ((hm1 k).1 hk).2
    exact a1 ((hm2 k).1 hk2).1
  refine ⟨?_, h3⟩
  have hd : (q ++ r).Nodup := List.nodup_append.2 ⟨hd1, hd2, fun a ha b hb e => h3 a ha (e ▸ hb)⟩
  have e1 := nodup_le (b := allI g.length) hd (fun k hk => by
    rcases List.mem_append.1 hk with hk | hk
    · exact (GOk.ups hg k).1 ((hm1 k).1 hk).1
    · obtain ⟨⟨j, hj, hu⟩, _⟩ := (hm2 k).1 hk
      rw [List.mem_singleton.1 hj] at hu
      exact (GOk.ups hg k).1 ⟨i, hi, hu⟩)
  have e2 := nodup_le (b := q ++ r) (GOk.nodup hg (Nat.le_refl _)) (fun k hk => by
    by_cases hu : UpO (paL g) i k
    · exact List.mem_append_right _ ((hm2 k).2 ⟨⟨i, by simp, hu⟩, by simp⟩)
    · exact List.mem_append_left _ ((hm1 k).2 ⟨(GOk.ups hg k).2 hk, fun ⟨j, hj, hv⟩ => hu (by rw [List.mem_singleton.1 hj] at hv; exact hv)⟩))
  simp at e1 e2; omega
end
end Go.Proofs.Ytepdhokpfecdnaa.GraS
