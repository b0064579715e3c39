/-
  A row of files, as an argument.
-/
import Derived.Test.YtclhnkmkejijjaaRenO
import Derived.Test.YtclhnkmkejijjaaRead
namespace Go.Proofs.Ytclhnkmkejijjaa.RenP
open Go.Proofs.Ytclhnkmkejijjaa.E Go.RowKit Go.Proofs.Ytclhnkmkejijjaa.RenA Go.Proofs.Ytclhnkmkejijjaa.RenB Go.Proofs.Ytclhnkmkejijjaa.RenI Go.Proofs.Ytclhnkmkejijjaa.RenM Go.Proofs.Ytclhnkmkejijjaa.RenO
set_option maxRecDepth 20000
set_option linter.unusedVariables false
set_option linter.unusedSimpArgs false
set_option linter.unusedSectionVars false

section
variable {H : Type} {enc : TypeId × Value → H} {P : Program} {W : World} {base : Nat} {sp : Nat → Bool} {held : Bool}
open Go.ChangeShapes Go.WideShapes Go.ChangeAt Go.RowKit Go.Deep
theorem slice_cell' {t e : TypeId} {u : Value} {n : Nat} {y : DataW H × List MemPlace} (ht : P.underlying t = some (.slice e)) (h : DataW.trod enc P W base sp held n t [u] = some y) : ∃ s : SV, u = s.v := by
  rcases open_slice ht h with ⟨h1, _⟩ | ⟨a, len, cap, _, _, _, _, h1, _⟩
  · simp only [List.cons.injEq, and_true] at h1; exact ⟨⟨none, 0, 0⟩, h1⟩
  · simp only [List.cons.injEq, and_true] at h1; exact ⟨⟨some a, len, cap⟩, h1⟩
theorem read_files {t e : TypeId} {f0 f1 f2 : Field} {u8 : TypeId} {v : Value} {d : DataW H} {p : List MemPlace} (hv : v.cells = #[v]) (ht : P.underlying t = some (.slice e)) (he : P.underlying e = some (.struct #[f0, f1, f2])) (hc : P.cellsOf e = 3)
    (o0 : f0.offset = 0) (o1 : f1.offset = 1) (o2 : f2.offset = 2) (c0 : P.cellsOf f0.type = 1) (c1 : P.cellsOf f1.type = 1) (c2 : P.cellsOf f2.type = 1) (t0 : P.underlying f0.type = some .string) (t1 : P.underlying f1.type = some (.int .i64)) (t2 : P.underlying f2.type = some (.slice u8)) (hu : P.underlying u8 = some (.int .u8)) (cu : P.cellsOf u8 = 1) (h : DataW.Trod enc P W base sp held t v d p) :
    ∃ l : List Fl, RdT W.heap fFl 3 v l ∧ (∀ x ∈ l, FlR (fun _ => True) W.heap x) ∧ (l.map (fun x => x.p.length + x.d.length + 1)).sum + 1 ≤ Rows.uptoBulk d := by
  obtain ⟨l, h1, h0, h2⟩ := read_slice fFl 3 (fun x => x.p.length + x.d.length + 1) (fun x => FlR (fun _ => True) W.heap x) hv ht hc fFl_len (by omega) (fun n cs' y ps hy hl => by
    obtain ⟨xs, m, _, hx, hl', hlen, hf⟩ := DataW.trod_struct he hy
    match xs, hlen, hx with
    | [y0, y1, y2], _, hx =>
      have q0 := hf 0 f0 rfl
      have q1 := hf 1 f1 rfl
      have q2 := hf 2 f2 rfl
      rw [o0, c0, List.drop_zero] at q0
      rw [o1, c1] at q1
      rw [o2, c2] at q2
      simp only [List.getElem?_cons_zero, List.getElem?_cons_succ] at q0 q1 q2
      match cs', hl with
      | [u0, u1, u2], _ =>
        simp only [List.take_succ_cons, List.take_zero, List.drop_succ_cons, List.drop_zero] at q0 q1 q2
        obtain ⟨s, e0, e0', _⟩ := DataW.trod_string t0 q0
        obtain ⟨k, e1, _, w1⟩ := DataW.trod_int t1 q1
        obtain ⟨sv, rfl⟩ := slice_cell' t2 q2
        obtain ⟨b, hb, hbw⟩ := read_bytes rfl t2 hu cu (show DataW.Trod enc P W base sp held f2.type sv.v y2.1 y2.2 from ⟨m, q2⟩)
        simp only [List.cons.injEq, and_true] at e0 e1
        refine ⟨⟨s.data.toList, k, b, sv⟩, by rw [e0, e1]; rfl, ⟨hb, i64_of w1⟩, ?_⟩
        simp only [Prod.mk.injEq] at hx
        rw [hx.1]
        have h9 : Rows.uptoBulk y0.1 = s.data.toList.length + 1 := by rw [e0']; simp [Rows.uptoBulk]
        simp only [List.map_cons, List.map_nil, Rows.uptoBulk, Rows.uptoBulkAll]
        omega) h
  exact ⟨l, h1, h0, h2⟩
theorem mem_sum {α : Type} (f : α → Nat) : ∀ {l : List α} {x : α}, x ∈ l → f x ≤ (l.map f).sum
  | y :: l, x, h => by
    rw [List.map_cons, List.sum_cons]
    rcases List.mem_cons.1 h with rfl | h
    · omega
    · have := mem_sum f h; omega
end

end Go.Proofs.Ytclhnkmkejijjaa.RenP
