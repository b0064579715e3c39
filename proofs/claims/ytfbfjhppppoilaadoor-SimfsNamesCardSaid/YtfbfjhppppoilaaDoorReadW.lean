/-
  How the arguments of a statement read, with what their reach says of their sizes: no condition.
-/
import Derived.Test.YtfbfjhppppoilaaDoorRead
import Derived.SizedLaws
namespace Go.Proofs.YtfbfjhppppoilaaDoor.E
set_option linter.unusedVariables false
set_option linter.unusedSimpArgs false
set_option linter.unusedSectionVars false
open Go.ChangeShapes Go.WideShapes Go.ChangeAt Go.RowKit Go.Deep
section
variable {H : Type} {enc : TypeId × Value → H} {P : Program} {W : World} {base : Nat} {sp : Nat → Bool} {held : Bool}
theorem mem_weightsAll {e : TypeId} {d : DataW H} : ∀ {ds : List (DataW H)}, d ∈ ds → ∀ n ∈ d.weights P e, n ∈ DataW.weightsAll P e ds
  | x :: ds, h, n, hn => by
    simp only [DataW.weightsAll, List.mem_append]
    rcases List.mem_cons.1 h with rfl | h
    · exact .inl hn
    · exact .inr (mem_weightsAll h n hn)
/-- what a datum weighs lies within the reach -/
def Wt (P : Program) (t : TypeId) (d : DataW H) : Prop := ∀ n ∈ d.weights P t, n ≤ reachBytes
theorem Wt.of {ts : List TypeId} {ds : List (DataW H)} {j : Nat} {t : TypeId} {d : DataW H} (h : (DataW.weightsEach P ts ds).all (· ≤ reachBytes) = true) (ht : ts[j]? = some t) (hd : ds[j]? = some d) : Wt P t d := fun n hn => by
  have := List.all_eq_true.1 h _ (DataW.weights_mem_each ht hd n hn)
  simpa using this
theorem Wt.slice {t e : TypeId} {els spr : List (DataW H)} (hu : P.underlying t = some (.slice e)) (h : Wt P t (.slice els spr)) : (els.length + spr.length) * P.bytesOf e ≤ reachBytes ∧ ∀ x ∈ els, Wt P e x :=
  ⟨h _ (by simp [DataW.weights, hu]), fun x hx n hn => h n (by simp only [DataW.weights, hu, List.mem_cons, List.mem_append]; exact .inr (.inl (mem_weightsAll hx n hn)))⟩
theorem Wt.each {t : TypeId} {fs : Array Field} {ds : List (DataW H)} {j : Nat} {f : TypeId} {d : DataW H} (hu : P.underlying t = some (.struct fs)) (h : Wt P t (.agg ds)) (hf : (fs.toList.map (·.type))[j]? = some f) (hd : ds[j]? = some d) : Wt P f d := fun n hn =>
  h n (by simp only [DataW.weights, hu]; exact DataW.weights_mem_each hf hd n hn)
theorem Wt.str {t : TypeId} {b : List UInt8} (h : Wt (H := H) P t (.lit (.string b))) : b.length ≤ reachBytes := h _ (by simp [DataW.weights])
/-- a slice, and what stands for each element -/
theorem read_sliceD {α : Type} (f : α → List Value) (sz : Nat) (Ψ : DataW H → α → Prop) {t e : TypeId} {v : Value} {d : DataW H} {p : List MemPlace} (hv : v.cells = #[v]) (ht : P.underlying t = some (.slice e)) (hc : P.cellsOf e = sz) (hsz : 0 < sz)
    (elem : ∀ n cs' y ps, DataW.trod enc P W base sp held n e cs' = some (y, ps) → cs'.length = sz → ∃ x, cs' = f x ∧ Ψ y x) (h : DataW.Trod enc P W base sp held t v d p) :
    ∃ l : List α, RdT W.heap f sz v l ∧ ∃ D : Nat → DataW H, (∀ (i : Nat) x, l[i]? = some x → Ψ (D i) x) ∧ ((l = [] ∧ d = .nil) ∨ ∃ spr, d = .slice ((List.range l.length).map D) spr) := by
  obtain ⟨fuel, h⟩ := h
  rw [hv] at h
  rcases open_slice ht h with ⟨h1, h2⟩ | ⟨a, len, cap, m, n, D, Pl, h1, h2, h3, h4, h5, h6, h7⟩
  · simp only [Array.toList, List.cons.injEq, and_true] at h1
    simp only [Prod.mk.injEq] at h2
    obtain ⟨rfl, rfl⟩ := h2
    subst h1
    exact ⟨[], Rd.nil _ _ _ _, fun _ => .nil, (fun i x h => by simp at h), .inl ⟨rfl, rfl⟩⟩
  · simp only [List.cons.injEq, and_true] at h1
    simp only [Prod.mk.injEq] at h6
    obtain ⟨rfl, rfl⟩ := h6
    subst h1
    have hm : len ≤ m := by rw [h5]; split <;> omega
    have : ∀ i, i < len → ∃ x : α, ∃ cs', W.cells? base (a.add (i * sz)) sz = some cs' ∧ cs' = f x ∧ Ψ (D i) x := by
      intro i hi
      obtain ⟨cs', hcs, htr⟩ := h7 i (by omega)
      rw [hc] at hcs
      obtain ⟨_, hl, _⟩ := World.cells?_some hcs
      obtain ⟨x, hx⟩ := elem n cs' _ _ htr hl
      exact ⟨x, cs', hcs, hx⟩
    obtain ⟨l, hl, hp⟩ := list_of this
    refine ⟨l, ⟨some a, cap, by rw [hl], by omega, h4, fun hne => ?_⟩, D, fun i x hx => ?_, .inr ⟨_, by rw [hl]⟩⟩
    · have hlen : 0 < l.length := List.length_pos_iff.2 hne
      obtain ⟨cs0, hcs0, hcs0', _⟩ := hp 0 l[0] (by simp [hlen])
      obtain ⟨_, hl0, hcell0⟩ := World.cells?_some hcs0
      have hc0 := hcell0 0 (by omega)
      have hh : W.cell? a = some (cs0[0]'(by omega)) := by
        simp only [Nat.zero_mul] at hc0
        rw [← List.getElem?_eq_getElem, ← hc0]
        simp [Addr.add]
      have hspot : a.spot = none := World.cell?_spot hh
      refine ⟨a, rfl, hspot, trivial, World.block_lt_of_cell? W a hh, fun i x hx => ⟨rfl, fun j c hj => ?_⟩⟩
      obtain ⟨cs', hcs', rfl, _⟩ := hp i x hx
      obtain ⟨_, hl', hcell'⟩ := World.cells?_some hcs'
      have hjl := (List.getElem?_eq_some_iff.1 hj).1
      have := hcell' j (by rw [← hl']; exact hjl)
      rw [hj] at this
      rw [add_eq hspot, add_eq rfl] at this
      show cell W.heap _ = _
      rw [← (At.cell (w0 := W) ⟨rfl, rfl, rfl, rfl, Nat.le_refl _⟩ _)]
      exact this
    · obtain ⟨_, _, _, h8⟩ := hp i x hx
      exact h8
/-- each element weighs within the reach, and so does the row -/
theorem wt_elems {α : Type} {t e : TypeId} {d : DataW H} {l : List α} {D : Nat → DataW H} (hu : P.underlying t = some (.slice e)) (h : (l = [] ∧ d = .nil) ∨ ∃ spr, d = .slice ((List.range l.length).map D) spr) (hw : Wt P t d) : l.length * P.bytesOf e ≤ reachBytes ∧ ∀ i, i < l.length → Wt P e (D i) := by
  rcases h with ⟨rfl, rfl⟩ | ⟨spr, rfl⟩
  · exact ⟨by simp, fun i hi => by simp at hi⟩
  · obtain ⟨h1, h2⟩ := hw.slice hu
    simp only [List.length_map, List.length_range] at h1
    exact ⟨Nat.le_trans (Nat.mul_le_mul_right _ (by omega)) h1, fun i hi => h2 _ (List.mem_map.2 ⟨i, by simpa using hi, rfl⟩)⟩
theorem read_bytesW {t e : TypeId} {v : Value} {d : DataW H} {p : List MemPlace} (hv : v.cells = #[v]) (ht : P.underlying t = some (.slice e)) (he : P.underlying e = some (.int .u8)) (hc : P.cellsOf e = 1) (hb : P.bytesOf e = 1) (h : DataW.Trod enc P W base sp held t v d p) :
    ∃ l : List UInt8, RdT W.heap fB 1 v l ∧ (Wt P t d → l.length ≤ reachBytes) := by
  obtain ⟨l, h1, D, _, h2⟩ := read_sliceD fB 1 (fun _ _ => True) hv ht hc (by omega) (fun n cs' y ps hy hl => by
    obtain ⟨x, rfl, h3, h4⟩ := DataW.trod_int he hy
    obtain ⟨b, rfl⟩ := u8_of h4
    exact ⟨b, rfl, trivial⟩) h
  exact ⟨l, h1, fun hw => by have := (wt_elems ht h2 hw).1; rw [hb] at this; omega⟩
/-- a row of texts -/
theorem read_strsW {t e : TypeId} {v : Value} {d : DataW H} {p : List MemPlace} (hv : v.cells = #[v]) (ht : P.underlying t = some (.slice e)) (he : P.underlying e = some .string) (hc : P.cellsOf e = 1) (h : DataW.Trod enc P W base sp held t v d p) :
    ∃ l : List (List UInt8), RdT W.heap fS 1 v l ∧ (Wt P t d → l.length * P.bytesOf e ≤ reachBytes ∧ ∀ s ∈ l, s.length ≤ reachBytes) := by
  obtain ⟨l, h1, D, h3, h2⟩ := read_sliceD fS 1 (fun y s => y = .lit (.string s)) hv ht hc (by omega) (fun n cs' y ps hy hl => by
    obtain ⟨s, rfl, h3⟩ := DataW.trod_string he hy
    simp only [Prod.mk.injEq] at h3
    exact ⟨s.data.toList, rfl, h3.1.1⟩) h
  refine ⟨l, h1, fun hw => ?_⟩
  obtain ⟨w1, w2⟩ := wt_elems ht h2 hw
  refine ⟨w1, fun s hs => ?_⟩
  obtain ⟨i, hi⟩ := List.mem_iff_getElem?.1 hs
  have w3 := w2 i (List.getElem?_eq_some_iff.1 hi).1
  rw [h3 i s hi] at w3
  exact w3.str
/-- a slice that is a cell among others -/
theorem slice_cell {t e : TypeId} {n : Nat} {u : Value} {y : DataW H} {ps : List MemPlace} (he : P.underlying t = some (.slice e)) (hy : DataW.trod enc P W base sp held n t [u] = some (y, ps)) : ∃ s : SV, u = s.v := by
  rcases open_slice he hy with ⟨h1, _⟩ | ⟨a, len, cap, _, _, _, _, h1, _⟩
  · simp only [List.cons.injEq, and_true] at h1; exact ⟨⟨none, 0, 0⟩, h1⟩
  · simp only [List.cons.injEq, and_true] at h1; exact ⟨⟨some a, len, cap⟩, h1⟩
/-- an array of bytes among cells -/
theorem read_arrC {n m : Nat} {t e : TypeId} {cs : List Value} {y : DataW H} {ps : List MemPlace} (ht : P.underlying t = some (.array n e)) (he : P.underlying e = some (.int .u8)) (hc : P.cellsOf e = 1) (hl0 : cs.length = n) (h : DataW.trod enc P W base sp held m t cs = some (y, ps)) :
    ∃ l : List UInt8, cs = l.map (fun b => Value.int .u8 b.toNat) ∧ l.length = n := by
  obtain ⟨xs, m, _, ex, hlen, hl, hel⟩ := DataW.trod_array ht h
  have : ∀ i, i < n → ∃ b : UInt8, cs[i]? = some (.int .u8 b.toNat) := by
    intro i hi
    have hE := hel i hi
    rw [hc, Nat.mul_one, List.getElem?_eq_getElem (by omega)] at hE
    obtain ⟨z, e1, e2, hw⟩ := DataW.trod_int he hE
    obtain ⟨b, rfl⟩ := u8_of hw
    refine ⟨b, ?_⟩
    have h0 : ((cs.drop i).take 1)[0]? = some (.int .u8 b.toNat) := by rw [e1]; rfl
    simpa using h0
  obtain ⟨l, hll, hp⟩ := list_of this
  refine ⟨l, ?_, hll⟩
  apply List.ext_getElem?
  intro i
  by_cases hi : i < n
  · rw [hp i l[i] (by simp [hll, hi])]; simp [hll, hi]
  · rw [List.getElem?_eq_none (by omega), List.getElem?_eq_none (by simp; omega)]
end
end Go.Proofs.YtfbfjhppppoilaaDoor.E
