/-
  What is never paired; of several that are the same the one with the same last name.
-/
import Derived.Test.YtclhnkmkejijjaaRenH
namespace Go.Proofs.Ytclhnkmkejijjaa.RenI
open Go.Proofs.Ytclhnkmkejijjaa.E Go.RowKit Go.Proofs.Ytclhnkmkejijjaa.RenA Go.Proofs.Ytclhnkmkejijjaa.RenB Go.Proofs.Ytclhnkmkejijjaa.RenC Go.Proofs.Ytclhnkmkejijjaa.RenD Go.Proofs.Ytclhnkmkejijjaa.RenE Go.Proofs.Ytclhnkmkejijjaa.RenF Go.Proofs.Ytclhnkmkejijjaa.RenG Go.Proofs.Ytclhnkmkejijjaa.RenH
set_option maxRecDepth 20000
set_option linter.unusedVariables false
set_option linter.unusedSimpArgs false
set_option linter.unusedSectionVars false
set_option maxRecDepth 100000 in
theorem inf26 : Inf Try.prog 26 35 3 48 := ⟨Try.underlying26, _, _, rfl, rfl, rfl, rfl, rfl⟩

theorem Nx.z {k h k2 : Nat} (x : Nx 0 h k2) : Nx k h k2 := by unfold Nx at *; omega
theorem diffL_all {Q : Fl → Prop} (hz : Q zFl) : ∀ (a b : List Fl), (∀ x ∈ a, Q x) → (∀ x ∈ b, Q x) → ∀ c ∈ diffL a b, Q c.o ∧ Q c.n
  | [], [], _, _ => by rw [diffL]; simp
  | x :: a, [], ha, hb => by
    rw [diffL]
    intro c hc
    rcases List.mem_cons.1 hc with rfl | hc
    · exact ⟨ha _ (by simp), hz⟩
    · exact diffL_all hz a [] (fun y hy => ha y (by simp [hy])) hb c hc
  | [], y :: b, ha, hb => by
    rw [diffL]
    intro c hc
    rcases List.mem_cons.1 hc with rfl | hc
    · exact ⟨hz, hb _ (by simp)⟩
    · exact diffL_all hz [] b ha (fun y hy => hb y (by simp [hy])) c hc
  | x :: a, y :: b, ha, hb => by
    have h1 := diffL_all hz a (y :: b) (fun y hy => ha y (by simp [hy])) hb
    have h2 := diffL_all hz (x :: a) b ha (fun y hy => hb y (by simp [hy]))
    have h3 := diffL_all hz a b (fun y hy => ha y (by simp [hy])) (fun y hy => hb y (by simp [hy]))
    rw [diffL]
    split
    · intro c hc
      rcases List.mem_cons.1 hc with rfl | hc
      · exact ⟨ha _ (by simp), hz⟩
      · exact h1 c hc
    · split
      · intro c hc
        rcases List.mem_cons.1 hc with rfl | hc
        · exact ⟨hz, hb _ (by simp)⟩
        · exact h2 c hc
      · split
        · exact h3
        · intro c hc
          rcases List.mem_cons.1 hc with rfl | hc
          · exact ⟨ha _ (by simp), hb _ (by simp)⟩
          · exact h3 c hc
termination_by a b => a.length + b.length
/-- a small file of these bytes, or of none -/
def Nv (sd : SV) (d : List UInt8) (x : Fl) : Prop := ((x.v = sd ∧ x.d = d) ∨ (x.v = zSV ∧ x.d = [])) ∧ x.p.length ≤ 1000 ∧ 0 ≤ x.k ∧ x.k ≤ 10
theorem Nv.z (sd : SV) (d : List UInt8) : Nv sd d zFl := ⟨.inr ⟨rfl, rfl⟩, by decide⟩
theorem Nv.R {sd : SV} {d : List UInt8} {x : Fl} {F : Nat → Prop} {H : Heap} (h : Nv sd d x) (hd : Rd F H fB 1 sd.v d) : FlR (fun _ => True) H x := by
  obtain ⟨h1, h2, h3, h4⟩ := h
  refine ⟨?_, by omega⟩
  rcases h1 with ⟨e1, e2⟩ | ⟨e1, e2⟩
  · rw [e1, e2]; exact hd.any
  · rw [e1, e2]; exact Rd.nil _ _ _ _
theorem Nv.b {sd : SV} {d : List UInt8} {x : Fl} (h : Nv sd d x) (hd : d.length ≤ 1048576) : x.p.length ≤ 9223372036854775806 ∧ x.d.length ≤ 1048576 := by
  obtain ⟨h1, h2, h3, h4⟩ := h
  refine ⟨by omega, ?_⟩
  rcases h1 with ⟨e1, e2⟩ | ⟨e1, e2⟩
  · rw [e2]; exact hd
  · rw [e2]; simp
theorem Nv.m1 {sd : SV} {d p : List UInt8} {k : Int} (h : p.length ≤ 1000) (h1 : 0 ≤ k) (h2 : k ≤ 10) : Nv sd d ⟨p, k, d, sd⟩ := ⟨.inl ⟨rfl, rfl⟩, h, h1, h2⟩
end Go.Proofs.Ytclhnkmkejijjaa.RenI
