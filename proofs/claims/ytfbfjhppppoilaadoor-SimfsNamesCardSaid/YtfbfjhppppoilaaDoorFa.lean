/-
  Families of rows that are ours, one for each key; histories above a heap's size: no condition.
-/
import Derived.Test.YtfbfjhppppoilaaDoorMr
namespace Go.Proofs.YtfbfjhppppoilaaDoor.E
set_option linter.unusedVariables false
set_option linter.unusedSimpArgs false
set_option linter.unusedSectionVars false
/-- numbers that are 0 or above h -/
def BL (h : Nat) (ks : List Nat) : Prop := ∀ k ∈ ks, Nx 0 h k
section
variable {h k kk : Nat} {ks : List Nat} {G F : Nat → Prop} {H0 H H' : Heap}
theorem BL.nil : BL h [] := fun k hk => by cases hk
theorem BL.cons (d : Nx 0 h k) (e : BL h ks) : BL h (k :: ks) := fun j hj => by
  rcases List.mem_cons.1 hj with rfl | hj
  · exact d
  · exact e j hj
theorem Mo.trBB (x : Mo (fun c => h ≤ c) H0 H) (s : Mo (fun c => h ≤ c) H H') : Mo (fun c => h ≤ c) H0 H' := Mo.trans x s (fun _ _ e => e) (fun _ _ e => e)
theorem Mo.trBN (x : Mo (fun c => h ≤ c) H0 H) (s : Nw H H') : Mo (fun c => h ≤ c) H0 H' := Mo.trans x s (fun _ _ e => e) (fun _ _ e => e.elim)
theorem Mo.trB (x : Mo (fun c => h ≤ c) H0 H) (s : Mo (Ms ks) H H') (d : BL h ks) : Mo (fun c => h ≤ c) H0 H' := Mo.trans x s (fun _ _ e => e) (fun b _ e => by have := d (b + 1) e; unfold Nx at this; omega)
theorem Dj.fam (d : DF G k) (hk : ∀ b, b + 1 = kk → G b) : Dj k kk := fun c h1 h2 => d c (hk c h2) h1
theorem Nx.z {a : Nat} (x : Nx 0 h k) : Nx a h k := by unfold Nx at *; omega
theorem Dj.nx {a : Nat} (d : a ≤ h) (x : Nx 0 h k) : Dj a k := fun c h1 h2 => by unfold Nx at x; omega
theorem DF.nx (d : BF F h) (x : Nx 0 h k) : DF F k := fun b hb e => by have := d b hb; unfold Nx at x; omega
theorem Nx.fam (hG : ∀ b, G b → h ≤ b) (hk : ∀ b, b + 1 = kk → G b) : Nx 0 h kk := by
  cases kk with
  | zero => exact .inl rfl
  | succ c => have := hG c (hk c rfl); unfold Nx; omega
end
section
variable {κ β : Type} [DecidableEq κ] {fk : κ → Value} {fv : β → Value} {b m r : Nat} {l : List (κ × β)} {es : Array MapEntry} {clock : Nat} {dn : List κ} {H H' : Heap}
theorem Mr.upA (x : Mr H fk fv b l es clock) (s : Mo (fun c => m ≤ c) H H') (d : b + 1 ≤ m) : Mr H' fk fv b l es clock := x.up s (by omega)
theorem Itr.upA (x : Itr H b r fk es clock dn) (s : Mo (fun c => m ≤ c) H H') (d : b + 1 ≤ m) : Itr H' b r fk es clock dn := x.up s (by omega)
end
/-- rows that are ours, one for each key, of blocks that are told -/
structure Fam {κ α : Type} (G : Nat → Prop) (e : TypeId) (H : Heap) (f : α → List Value) (sz : Nat) (val : κ → Value) (ch : κ → List α) : Prop where
  ex : ∃ nm : κ → Nat, (∀ p, Ow (nm p) e H f sz (val p) (ch p)) ∧ (∀ p q, p ≠ q → Dj (nm p) (nm q)) ∧ ∀ p b, b + 1 = nm p → G b
section
variable {κ α : Type} {G : Nat → Prop} {e : TypeId} {H H' : Heap} {f : α → List Value} {sz : Nat} {val : κ → Value} {ch : κ → List α} {ks : List Nat}
theorem Fam.none (hf : ∀ x, (f x).length = sz) (h1 : ∀ x, ∀ u ∈ f x, u.oneCell' = true) : Fam G e H f sz (fun _ : κ => .slice none 0 0) (fun _ => ([] : List α)) :=
  ⟨fun _ => 0, fun p => ⟨(Ow.nil hf h1).own, Nat.zero_le _⟩, fun p q _ => Dj.z, fun p b (hb : b + 1 = 0) => absurd hb (by omega)⟩
theorem Fam.nw (h : Fam G e H f sz val ch) (s : Nw H H') : Fam G e H' f sz val ch := by
  obtain ⟨nm, h1, h2, h3⟩ := h.ex
  exact ⟨nm, fun p => (h1 p).nw s, h2, h3⟩
theorem Fam.upL (h : Fam G e H f sz val ch) (s : Mo (Ms ks) H H') (d : DFL G ks) : Fam G e H' f sz val ch := by
  obtain ⟨nm, h1, h2, h3⟩ := h.ex
  exact ⟨nm, fun p => (h1 p).up s (fun b _ hb hm => d (b + 1) hm b (h3 p b hb) rfl), h2, h3⟩
theorem Fam.row (h : Fam G e H f sz val ch) (p : κ) : Rd G H f sz (val p) (ch p) := by
  obtain ⟨nm, h1, h2, h3⟩ := h.ex
  exact (h1 p).rd.imp (fun b _ hb => h3 p b hb)
theorem Fam.at [DecidableEq κ] (h : Fam G e H f sz val ch) (p : κ) : ∃ kk, Ow kk e H f sz (val p) (ch p) ∧ (∀ b, b + 1 = kk → G b) ∧
    ∀ H' k2 r l', Mo (Ms [kk]) H H' → Ow k2 e H' f sz r l' → Nx kk H.size k2 → Fam (fun b => G b ∨ b + 1 = k2) e H' f sz (fun q => if q = p then r else val q) (fun q => if q = p then l' else ch q) := by
  obtain ⟨nm, h1, h2, h3⟩ := h.ex
  refine ⟨nm p, h1 p, h3 p, fun H' k2 r l' s hr hk => ⟨fun q => if q = p then k2 else nm q, fun q => ?_, fun a b hab => ?_, fun q b hb => ?_⟩⟩
  · by_cases hq : q = p
    · simp only [hq, if_true]; exact hr
    · simp only [hq, if_false]
      exact (h1 q).upL s (DL.cons (h2 q p hq) DL.nil)
  · by_cases ha : a = p <;> by_cases hb : b = p
    · exact absurd (ha.trans hb.symm) hab
    · simp only [ha, hb, if_true, if_false]; exact (Dj.app (h2 b p hb) (h1 b).le hk).symm
    · simp only [ha, hb, if_true, if_false]; exact Dj.app (h2 a p ha) (h1 a).le hk
    · simp only [ha, hb, if_false]; exact h2 a b hab
  · by_cases hq : q = p
    · simp only [hq, if_true] at hb; exact .inr hb
    · simp only [hq, if_false] at hb; exact .inl (h3 q b hb)
end
end Go.Proofs.YtfbfjhppppoilaaDoor.E
