/-
  How the arguments of a statement read, as facts of the engine, and their sizes: no condition.
-/
import Derived.Test.YtfbfjhppppoilaaDoorRows
import Derived.Test.YtfbfjhppppoilaaDoorOwn
import Derived.ProofKit
import Derived.OpenShut
import Derived.ShutString
import Derived.ChangeOld
import Derived.Below
import Derived.JoinedCond
import Derived.Deep.Slices
import Derived.ChangeSame
namespace Go.Proofs.YtfbfjhppppoilaaDoor.E
set_option linter.unusedVariables false
set_option linter.unusedSimpArgs false
set_option linter.unusedSectionVars false
open Go.ChangeShapes Go.WideShapes Go.ChangeAt Go.RowKit Go.Deep

theorem bulkAll_append {H : Type} (l r : List (DataW H)) : Rows.uptoBulkAll (l ++ r) = Rows.uptoBulkAll l + Rows.uptoBulkAll r := by
  induction l with
  | nil => simp [Rows.uptoBulkAll]
  | cons x l ih => simp only [List.cons_append, Rows.uptoBulkAll, ih]; omega

theorem list_of {α : Type} {n : Nat} {p : Nat → α → Prop} (h : ∀ i, i < n → ∃ x, p i x) : ∃ l : List α, l.length = n ∧ ∀ i x, l[i]? = some x → p i x := by
  induction n with
  | zero => exact ⟨[], rfl, fun i x h => by simp at h⟩
  | succ n ih =>
    obtain ⟨l, hl, hp⟩ := ih (fun i hi => h i (by omega))
    obtain ⟨x, hx⟩ := h n (by omega)
    refine ⟨l ++ [x], by simp [hl], fun i y hy => ?_⟩
    by_cases hi : i < l.length
    · rw [List.getElem?_append_left hi] at hy; exact hp i y hy
    · rw [List.getElem?_append_right (by omega)] at hy
      have : i - l.length = 0 := by have := (List.getElem?_eq_some_iff.1 hy).1; simp at this; omega
      rw [this] at hy
      simp only [List.getElem?_cons_zero, Option.some.injEq] at hy
      subst hy
      have : i = n := by omega
      subst this; exact hx

theorem sum_le {α : Type} {H : Type} (B : α → Nat) (D : Nat → DataW H) (l : List α) (h : ∀ i x, l[i]? = some x → B x ≤ Rows.uptoBulk (D i)) : ∀ k, k ≤ l.length → ((l.take k).map B).sum ≤ Rows.uptoBulkAll ((List.range k).map D) := by
  intro k
  induction k with
  | zero => intro _; simp
  | succ k ih =>
    intro hk
    rw [List.range_succ, List.map_append, bulkAll_append, List.take_succ_eq_append_getElem (show k < l.length from hk), List.map_append, List.sum_append]
    have h1 := ih (by omega)
    have h2 := h k l[k] (by simp [show k < l.length from hk])
    simp only [List.map_cons, List.map_nil, List.sum_cons, List.sum_nil, Rows.uptoBulkAll]
    omega

section
variable {H : Type} {enc : TypeId × Value → H} {P : Program} {W : World} {base : Nat} {sp : Nat → Bool} {held : Bool}
theorem read_slice {α : Type} (f : α → List Value) (sz : Nat) (B : α → Nat) (Φ : α → Prop) {t e : TypeId} {v : Value} {d : DataW H} {p : List MemPlace} (hv : v.cells = #[v]) (ht : P.underlying t = some (.slice e)) (hc : P.cellsOf e = sz) (hf : ∀ x, (f x).length = sz) (hsz : 0 < sz)
    (elem : ∀ n cs' y ps, DataW.trod enc P W base sp held n e cs' = some (y, ps) → cs'.length = sz → ∃ x, cs' = f x ∧ Φ x ∧ B x ≤ Rows.uptoBulk y) (h : DataW.Trod enc P W base sp held t v d p) :
    ∃ l : List α, RdT W.heap f sz v l ∧ (∀ x ∈ l, Φ x) ∧ (l.map B).sum + 1 ≤ Rows.uptoBulk d := by
  obtain ⟨fuel, h⟩ := h
  rw [hv] at h
  rcases open_slice ht h with ⟨h1, h2⟩ | ⟨a, len, cap, m, n, D, Pl, h1, h2, h3, h4, h5, h6, h7⟩
  · simp only [Array.toList, List.cons.injEq, and_true] at h1
    simp only [Prod.mk.injEq] at h2
    obtain ⟨rfl, rfl⟩ := h2
    subst h1
    exact ⟨[], Rd.nil _ _ _ _, by simp, by simp [Rows.uptoBulk]⟩
  · simp only [List.cons.injEq, and_true] at h1
    simp only [Prod.mk.injEq] at h6
    obtain ⟨rfl, rfl⟩ := h6
    subst h1
    have hm : len ≤ m := by rw [h5]; split <;> omega
    have : ∀ i, i < len → ∃ x : α, ∃ cs', W.cells? base (a.add (i * sz)) sz = some cs' ∧ cs' = f x ∧ Φ x ∧ B x ≤ Rows.uptoBulk (D i) := by
      intro i hi
      obtain ⟨cs', hcs, htr⟩ := h7 i (by omega)
      rw [hc] at hcs
      obtain ⟨_, hl, _⟩ := World.cells?_some hcs
      obtain ⟨x, hx⟩ := elem n cs' _ _ htr hl
      exact ⟨x, cs', hcs, hx⟩
    obtain ⟨l, hl, hp⟩ := list_of this
    refine ⟨l, ⟨some a, cap, by rw [hl], by omega, h4, fun hne => ?_⟩, fun x hx => ?_, ?_⟩
    · have hlen : 0 < l.length := List.length_pos_iff.2 hne
      obtain ⟨cs0, hcs0, hcs0', _⟩ := hp 0 l[0] (by simp [hlen])
      obtain ⟨_, hl0, hcell0⟩ := World.cells?_some hcs0
      have hc0 := hcell0 0 (by omega)
      have hh : W.cell? a = some (cs0[0]'(by omega)) := by
        simp only [Nat.zero_mul] at hc0
        rw [← List.getElem?_eq_getElem, ← hc0]
        simp [Addr.add]
      have hspot : a.spot = none := World.cell?_spot hh
      refine ⟨a, rfl, hspot, trivial, World.block_lt_of_cell? W a hh, fun i x hx => ⟨rfl, fun j c hj => ?_⟩⟩
      obtain ⟨cs', hcs', rfl, _, _⟩ := hp i x hx
      obtain ⟨_, hl', hcell'⟩ := World.cells?_some hcs'
      have hjl := (List.getElem?_eq_some_iff.1 hj).1
      have := hcell' j (by rw [← hl']; exact hjl)
      rw [hj] at this
      rw [add_eq hspot, add_eq rfl] at this
      show cell W.heap _ = _
      rw [← (At.cell (w0 := W) ⟨rfl, rfl, rfl, rfl, Nat.le_refl _⟩ _)]
      exact this
    · obtain ⟨i, hi⟩ := List.mem_iff_getElem?.1 hx
      obtain ⟨_, _, _, h8, _⟩ := hp i x hi
      exact h8
    · have := sum_le B D l (fun i x hx => by obtain ⟨_, _, _, _, h9⟩ := hp i x hx; exact h9) l.length (Nat.le_refl _)
      rw [List.take_length, hl] at this
      simp only [Rows.uptoBulk]
      omega

theorem sum_mem {α : Type} (B : α → Nat) : ∀ (l : List α) (x : α), x ∈ l → B x ≤ (l.map B).sum
  | y :: l, x, h => by
    simp only [List.map_cons, List.sum_cons]
    rcases List.mem_cons.1 h with rfl | h
    · omega
    · have := sum_mem B l x h; omega
theorem sum_len {α : Type} (B : α → Nat) (hB : ∀ x, 1 ≤ B x) : ∀ (l : List α), l.length ≤ (l.map B).sum
  | [] => by simp
  | y :: l => by simp only [List.map_cons, List.sum_cons, List.length_cons]; have := hB y; have := sum_len B hB l; omega

/-- a slice of texts -/
theorem read_strs {t e : TypeId} {v : Value} {d : DataW H} {p : List MemPlace} (hv : v.cells = #[v]) (ht : P.underlying t = some (.slice e)) (he : P.underlying e = some .string) (hc : P.cellsOf e = 1) (h : DataW.Trod enc P W base sp held t v d p) :
    ∃ l : List (List UInt8), RdT W.heap fS 1 v l ∧ (l.map (fun s => s.length + 1)).sum + 1 ≤ Rows.uptoBulk d := by
  obtain ⟨l, h1, _, h2⟩ := read_slice fS 1 (fun s => s.length + 1) (fun _ => True) hv ht hc fS_len (by omega) (fun n cs' y ps hy hl => by
    obtain ⟨s, rfl, h3⟩ := DataW.trod_string he hy
    simp only [Prod.mk.injEq] at h3
    refine ⟨s.data.toList, rfl, trivial, ?_⟩
    rw [h3.1.1]
    simp [Rows.uptoBulk]) h
  exact ⟨l, h1, h2⟩
/-- a slice of numbers -/
theorem read_ints {k : IntKind} {t e : TypeId} {v : Value} {d : DataW H} {p : List MemPlace} (hv : v.cells = #[v]) (ht : P.underlying t = some (.slice e)) (he : P.underlying e = some (.int k)) (hc : P.cellsOf e = 1) (h : DataW.Trod enc P W base sp held t v d p) :
    ∃ l : List Int, RdT W.heap (fun x => [Value.int k x]) 1 v l ∧ (∀ x ∈ l, (Lit.int k x).wf = true) ∧ l.length + 1 ≤ Rows.uptoBulk d := by
  obtain ⟨l, h1, h0, h2⟩ := read_slice (fun x => [Value.int k x]) 1 (fun _ => 1) (fun x => (Lit.int k x).wf = true) hv ht hc (fun _ => rfl) (by omega) (fun n cs' y ps hy hl => by
    obtain ⟨x, rfl, h3, h4⟩ := DataW.trod_int he hy
    simp only [Prod.mk.injEq] at h3
    refine ⟨x, rfl, h4, ?_⟩
    rw [h3.1]
    simp [Rows.uptoBulk]) h
  exact ⟨l, h1, h0, by have := sum_len (fun _ : Int => 1) (fun _ => by omega) l; omega⟩
theorem u8_of {x : Int} (h : (Lit.int .u8 x).wf = true) : ∃ b : UInt8, x = b.toNat := by
  simp only [Lit.wf, Bool.and_eq_true, decide_eq_true_eq, show IntKind.u8.min = 0 by decide, show IntKind.u8.max = 255 by decide] at h
  refine ⟨UInt8.ofNat x.toNat, ?_⟩
  rw [UInt8.toNat_ofNat']
  omega
theorem i64_of {x : Int} (h : (Lit.int .i64 x).wf = true) : -9223372036854775808 ≤ x ∧ x ≤ 9223372036854775807 := by
  simpa only [Lit.wf, Bool.and_eq_true, decide_eq_true_eq, show IntKind.i64.min = -9223372036854775808 by decide, show IntKind.i64.max = 9223372036854775807 by decide] using h
/-- an array of bytes -/
theorem read_arr8 {r : Reach} {b0 n : Nat} {t e : TypeId} {v : Value} {d : DataW H} {p : List MemPlace} (ht : P.underlying t = some (.array n e)) (he : P.underlying e = some (.int .u8)) (hc : P.cellsOf e = 1) (hct : P.cellsOf t = n) (hok : Value.okWide P W r b0 t v) (h : DataW.Trod enc P W base sp held t v d p) :
    ∃ l : List UInt8, v = .agg (l.map (fun b => Value.int .u8 b.toNat)).toArray ∧ l.length = n := by
  simp only [Value.okWide, ht] at hok
  obtain ⟨cs, rfl, h2, _⟩ := hok
  obtain ⟨fuel, h⟩ := h
  obtain ⟨xs, m, _, ex, hlen, hl, hel⟩ := DataW.trod_array ht h
  simp only [Value.cells] at hlen hel
  rw [hct] at hlen
  have : ∀ i, i < n → ∃ b : UInt8, cs.toList[i]? = some (.int .u8 b.toNat) := by
    intro i hi
    have hE := hel i hi
    rw [hc, Nat.mul_one, List.getElem?_eq_getElem (by omega)] at hE
    obtain ⟨z, e1, e2, hw⟩ := DataW.trod_int he hE
    obtain ⟨b, rfl⟩ := u8_of hw
    refine ⟨b, ?_⟩
    have h0 : ((cs.toList.drop i).take 1)[0]? = some (.int .u8 b.toNat) := by rw [e1]; rfl
    simpa using h0
  obtain ⟨l, hll, hp⟩ := list_of this
  refine ⟨l, ?_, hll⟩
  congr 1
  apply Array.ext'
  apply List.ext_getElem?
  intro i
  by_cases hi : i < n
  · rw [hp i l[i] (by simp [hll, hi])]; simp [hll, hi]
  · rw [List.getElem?_eq_none (by omega), List.getElem?_eq_none (by simp; omega)]
/-- a slice of bytes -/
theorem read_bytes {t e : TypeId} {v : Value} {d : DataW H} {p : List MemPlace} (hv : v.cells = #[v]) (ht : P.underlying t = some (.slice e)) (he : P.underlying e = some (.int .u8)) (hc : P.cellsOf e = 1) (h : DataW.Trod enc P W base sp held t v d p) :
    ∃ l : List UInt8, RdT W.heap fB 1 v l ∧ l.length + 1 ≤ Rows.uptoBulk d := by
  obtain ⟨l, h1, _, h2⟩ := read_slice fB 1 (fun _ => 1) (fun _ => True) hv ht hc fB_len (by omega) (fun n cs' y ps hy hl => by
    obtain ⟨x, rfl, h3, h4⟩ := DataW.trod_int he hy
    obtain ⟨b, rfl⟩ := u8_of h4
    simp only [Prod.mk.injEq] at h3
    refine ⟨b, rfl, trivial, ?_⟩
    rw [h3.1]
    simp [Rows.uptoBulk]) h
  exact ⟨l, h1, by have := sum_len (fun _ : UInt8 => 1) (fun _ => by omega) l; omega⟩
abbrev fBo (b : Bool) : List Value := [.bool b]
/-- a slice of truths -/
theorem read_bools {t e : TypeId} {v : Value} {d : DataW H} {p : List MemPlace} (hv : v.cells = #[v]) (ht : P.underlying t = some (.slice e)) (he : P.underlying e = some .bool) (hc : P.cellsOf e = 1) (h : DataW.Trod enc P W base sp held t v d p) :
    ∃ l : List Bool, RdT W.heap fBo 1 v l ∧ l.length + 1 ≤ Rows.uptoBulk d := by
  obtain ⟨l, h1, _, h2⟩ := read_slice fBo 1 (fun _ => 1) (fun _ => True) hv ht hc (fun _ => rfl) (by omega) (fun n cs' y ps hy hl => by
    obtain ⟨x, rfl, h3⟩ := DataW.trod_bool he hy
    simp only [Prod.mk.injEq] at h3
    refine ⟨x, rfl, trivial, ?_⟩
    rw [h3.1]
    simp [Rows.uptoBulk]) h
  exact ⟨l, h1, by have := sum_len (fun _ : Bool => 1) (fun _ => by omega) l; omega⟩
/-- a slice of pairs of numbers -/
theorem read_pairs {k0 k1 : IntKind} {t e : TypeId} {f0 f1 : Field} {v : Value} {d : DataW H} {p : List MemPlace} (hv : v.cells = #[v]) (ht : P.underlying t = some (.slice e)) (he : P.underlying e = some (.struct #[f0, f1])) (hc : P.cellsOf e = 2)
    (o0 : f0.offset = 0) (o1 : f1.offset = 1) (c0 : P.cellsOf f0.type = 1) (c1 : P.cellsOf f1.type = 1) (t0 : P.underlying f0.type = some (.int k0)) (t1 : P.underlying f1.type = some (.int k1)) (h : DataW.Trod enc P W base sp held t v d p) :
    ∃ l : List (Int × Int), RdT W.heap (fun e => [Value.int k0 e.1, .int k1 e.2]) 2 v l ∧ (∀ x ∈ l, (Lit.int k0 x.1).wf = true ∧ (Lit.int k1 x.2).wf = true) ∧ l.length + 1 ≤ Rows.uptoBulk d := by
  obtain ⟨l, h1, h0, h2⟩ := read_slice (fun e : Int × Int => [Value.int k0 e.1, .int k1 e.2]) 2 (fun _ => 1) (fun x => (Lit.int k0 x.1).wf = true ∧ (Lit.int k1 x.2).wf = true) hv ht hc (fun _ => rfl) (by omega) (fun n cs' y ps hy hl => by
    obtain ⟨y0, y1, m, hx, hl', q0, q1⟩ := trod_struct2 he hy
    rw [o0, c0, List.drop_zero] at q0
    rw [o1, c1] at q1
    obtain ⟨a, e1, _, w1⟩ := DataW.trod_int t0 q0
    obtain ⟨b, e2, _, w2⟩ := DataW.trod_int t1 q1
    simp only [Prod.mk.injEq] at hx
    match cs', hl with
    | [u, w], _ =>
      simp only [List.take_succ_cons, List.take_zero, List.drop_succ_cons, List.drop_zero, List.cons.injEq, and_true] at e1 e2
      subst e1; subst e2
      refine ⟨(a, b), rfl, ⟨w1, w2⟩, ?_⟩
      rw [hx.1]
      simp [Rows.uptoBulk]) h
  exact ⟨l, h1, h0, by have := sum_len (fun _ : Int × Int => 1) (fun _ => by omega) l; omega⟩
/-- elements that are slices themselves -/
abbrev fP {β : Type} (x : SV × β) : List Value := [x.1.v]
theorem fP_len {β : Type} (x : SV × β) : (fP x).length = 1 := rfl
theorem fP_one {β : Type} (x : SV × β) : ∀ u ∈ fP x, u.oneCell' = true := by intro u hu; simp only [List.mem_singleton] at hu; subst hu; rfl
theorem read_nested {β : Type} (Ψ : Value → β → Prop) (B : β → Nat) {t e ee : TypeId} {v : Value} {d : DataW H} {p : List MemPlace} (hv : v.cells = #[v]) (ht : P.underlying t = some (.slice e)) (he : P.underlying e = some (.slice ee)) (hc : P.cellsOf e = 1)
    (rd : ∀ (v : Value) (d : DataW H) (p : List MemPlace), v.cells = #[v] → DataW.Trod enc P W base sp held e v d p → ∃ l : β, Ψ v l ∧ B l ≤ Rows.uptoBulk d) (h : DataW.Trod enc P W base sp held t v d p) :
    ∃ l : List (SV × β), RdT W.heap fP 1 v l ∧ (∀ x ∈ l, Ψ x.1.v x.2) ∧ (l.map (fun x => B x.2)).sum + 1 ≤ Rows.uptoBulk d := by
  refine read_slice (fP (β := β)) 1 (fun x => B x.2) (fun x => Ψ x.1.v x.2) hv ht hc fP_len (by omega) (fun n cs' y ps hy hl => ?_) h
  match cs', hl with
  | [u], _ =>
    have hu : ∃ s : SV, u = s.v := by
      rcases open_slice he hy with ⟨h1, _⟩ | ⟨a, len, cap, _, _, _, _, h1, _⟩
      · simp only [List.cons.injEq, and_true] at h1; exact ⟨⟨none, 0, 0⟩, h1⟩
      · simp only [List.cons.injEq, and_true] at h1; exact ⟨⟨some a, len, cap⟩, h1⟩
    obtain ⟨s, rfl⟩ := hu
    obtain ⟨l, h1, h2⟩ := rd s.v y ps rfl ⟨n, hy⟩
    exact ⟨(s, l), rfl, h1, h2⟩
/-- rows of bytes -/
theorem read_byteses {t e ee : TypeId} {v : Value} {d : DataW H} {p : List MemPlace} (hv : v.cells = #[v]) (ht : P.underlying t = some (.slice e)) (he : P.underlying e = some (.slice ee)) (hee : P.underlying ee = some (.int .u8)) (hc : P.cellsOf e = 1) (hce : P.cellsOf ee = 1) (h : DataW.Trod enc P W base sp held t v d p) :
    ∃ l : List (SV × List UInt8), RdT W.heap fP 1 v l ∧ (∀ x ∈ l, RdT W.heap fB 1 x.1.v x.2) ∧ (l.map (fun x => x.2.length + 1)).sum + 1 ≤ Rows.uptoBulk d :=
  read_nested (fun v l => RdT W.heap fB 1 v l) (fun l => l.length + 1) hv ht he hc (fun v d p hv h => read_bytes hv he hee hce h) h
end
end Go.Proofs.YtfbfjhppppoilaaDoor.E
