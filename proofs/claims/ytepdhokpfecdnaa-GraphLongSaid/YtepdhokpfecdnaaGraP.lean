/-
  Graphs without rounds out of any rows of numbers; commits by any numbers.
-/
import Derived.Test.YtepdhokpfecdnaaGraO
namespace Go.Proofs.Ytepdhokpfecdnaa.GraP
open Go.Proofs.Ytepdhokpfecdnaa.E Go.RowKit Go.Proofs.Ytepdhokpfecdnaa.GraA Go.Proofs.Ytepdhokpfecdnaa.GraB Go.Proofs.Ytepdhokpfecdnaa.GraC Go.Proofs.Ytepdhokpfecdnaa.GraD Go.Proofs.Ytepdhokpfecdnaa.GraE Go.Proofs.Ytepdhokpfecdnaa.GraF Go.Proofs.Ytepdhokpfecdnaa.GraG Go.Proofs.Ytepdhokpfecdnaa.GraH Go.Proofs.Ytepdhokpfecdnaa.GraI Go.Proofs.Ytepdhokpfecdnaa.GraJ Go.Proofs.Ytepdhokpfecdnaa.GraK Go.Proofs.Ytepdhokpfecdnaa.GraL Go.Proofs.Ytepdhokpfecdnaa.GraM Go.Proofs.Ytepdhokpfecdnaa.GraN Go.Proofs.Ytepdhokpfecdnaa.GraO
set_option maxRecDepth 20000
set_option linter.unusedVariables false
set_option linter.unusedSimpArgs false
set_option linter.unusedSectionVars false
set_option maxRecDepth 100000 in
theorem inf22 : Inf Try.prog 22 38 1 24 := ⟨Try.underlying22, _, _, rfl, rfl, rfl, rfl, rfl⟩
set_option maxRecDepth 100000 in
theorem inf28 : Inf Try.prog 28 30 32 32 := ⟨Try.underlying28, _, _, rfl, rfl, rfl, rfl, rfl⟩
set_option maxRecDepth 100000 in
theorem inf38 : Inf Try.prog 38 3 1 8 := ⟨Try.underlying38, _, _, rfl, rfl, rfl, rfl, rfl⟩

structure RwOk (out : List Rw) : Prop where
  le : out.length ≤ 40
  at_ : ∀ n (h : n < out.length), (out[n]).l.length ≤ 4 ∧ ∀ k ∈ (out[n]).l, k < n
theorem RwOk.g {out : List Rw} (h : RwOk out) : GOk (out.map (·.l)) := by
  refine ⟨by rw [List.length_map]; have := h.le; omega, fun n hn k hk => ?_, fun n hn => ?_⟩
  · rw [List.length_map] at hn
    rw [List.getElem_map] at hk
    exact (h.at_ n hn).2 k hk
  · rw [List.length_map] at hn
    rw [List.getElem_map]
    have := (h.at_ n hn).1; omega
theorem RwOk.ok {s : SV} {out : List Rw} (h : RwOk out) : (Sou.rows s out).ok := by
  refine ⟨by have := h.le; omega, fun x hx => ?_⟩
  obtain ⟨n, hn, rfl⟩ := List.getElem_of_mem hx
  have h1 := h.at_ n hn
  have := h.le
  exact ⟨by omega, fun k hk => by have := h1.2 k hk; omega⟩
theorem RwOk.nil : RwOk [] := ⟨by simp, fun n h => by simp at h⟩
def i64b (a : Int) : Prop := -9223372036854775808 ≤ a ∧ a ≤ 9223372036854775807

end Go.Proofs.Ytepdhokpfecdnaa.GraP
