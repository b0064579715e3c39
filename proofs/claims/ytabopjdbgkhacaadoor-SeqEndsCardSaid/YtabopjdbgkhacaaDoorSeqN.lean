/-
  Sequences: how the arguments read.
-/
import Derived.Shelf.Vars
import Derived.Test.YtabopjdbgkhacaaDoorSeqM
import Derived.Test.YtabopjdbgkhacaaDoorReadW
namespace Go.Proofs.YtabopjdbgkhacaaDoor.SeqN
open Go.Proofs.YtabopjdbgkhacaaDoor.E Go.RowKit Go.Proofs.YtabopjdbgkhacaaDoor.NamA Go.Proofs.YtabopjdbgkhacaaDoor.NamB Go.Proofs.YtabopjdbgkhacaaDoor.NamC Go.Proofs.YtabopjdbgkhacaaDoor.NamD Go.Proofs.YtabopjdbgkhacaaDoor.SeqA Go.Proofs.YtabopjdbgkhacaaDoor.SeqB Go.Proofs.YtabopjdbgkhacaaDoor.SeqC Go.Proofs.YtabopjdbgkhacaaDoor.SeqD Go.Proofs.YtabopjdbgkhacaaDoor.SeqE Go.Proofs.YtabopjdbgkhacaaDoor.SeqF Go.Proofs.YtabopjdbgkhacaaDoor.SeqG Go.Proofs.YtabopjdbgkhacaaDoor.SeqH Go.Proofs.YtabopjdbgkhacaaDoor.SeqI Go.Proofs.YtabopjdbgkhacaaDoor.SeqJ Go.Proofs.YtabopjdbgkhacaaDoor.SeqK Go.Proofs.YtabopjdbgkhacaaDoor.SeqL Go.Proofs.YtabopjdbgkhacaaDoor.SeqM Go.Proofs.YtabopjdbgkhacaaDoor.Num
set_option maxRecDepth 20000
set_option linter.unusedVariables false
set_option linter.unusedSimpArgs false
set_option linter.unusedSectionVars false

theorem mx_of {W : World} (h : W.ShapedOpen Tryd.prog) : ∃ m, MX m W.heap ∧ BF (fun b => b = 0) W.heap.size := by
  obtain ⟨m, hm⟩ := cell_of_shapedOpen_int (g := 0) (t := 3) (zero := #[.int .i64 0]) h (by decide) (by kernel_rfl) rfl (by kernel_rfl) (by kernel_rfl) Tryd.underlying3
  have hc : E.cell W.heap ⟨0, 0, none⟩ = some (.int .i64 m) := by rw [← (At.cell (w0 := W) ⟨rfl, rfl, rfl, rfl⟩ _)]; exact hm
  refine ⟨m, ⟨⟨rfl, fun j c hj => ?_⟩, rfl⟩, fun b hb => ?_⟩
  · cases j with
    | zero => cases hj; exact hc
    | succ j => cases hj
  · have := World.block_lt_of_cell? W _ hm; simp only at hb; omega
section
variable {H : Type} {enc : TypeId × Value → H} {P : Program} {W : World} {base : Nat} {sp : Nat → Bool} {held : Bool}
open Go.ChangeShapes Go.WideShapes Go.ChangeAt Go.RowKit Go.Deep
theorem fld {fs : Array Field} {l : List (TypeId × Nat)} (hf : fs.toList.map (fun f => (f.type, f.offset)) = l) {j : Nat} {t : TypeId} {o : Nat} (h : l[j]? = some (t, o)) : ∃ f, fs[j]? = some f ∧ f.type = t ∧ f.offset = o := by
  rw [← hf, List.getElem?_map] at h
  obtain ⟨f, h1, h2⟩ := Option.map_eq_some_iff.1 h
  simp only [Prod.mk.injEq] at h2
  exact ⟨f, by simpa using h1, h2.1, h2.2⟩
theorem read_tds {t e : TypeId} {f0 f1 : Field} {u8 : TypeId} {v : Value} {d : DataW H} {p : List MemPlace} (hv : v.cells = #[v]) (ht : P.underlying t = some (.slice e)) (he : P.underlying e = some (.struct #[f0, f1])) (hc : P.cellsOf e = 33)
    (o0 : f0.offset = 0) (o1 : f1.offset = 1) (c0 : P.cellsOf f0.type = 1) (c1 : P.cellsOf f1.type = 32) (t0 : P.underlying f0.type = some (.int .i64)) (t1 : P.underlying f1.type = some (.array 32 u8)) (hu : P.underlying u8 = some (.int .u8)) (cu : P.cellsOf u8 = 1) (h : DataW.Trod enc P W base sp held t v d p) :
    ∃ l : List Td, RdT W.heap fT 33 v l ∧ (∀ x ∈ l, x.i.length = 32) := by
  obtain ⟨l, h1, D, h3, _⟩ := read_sliceD fT 33 (fun _ x => x.i.length = 32) hv ht hc (by omega) (fun n cs' y ps hy hl => by
    obtain ⟨y0, y1, m, hx, hl', q0, q1⟩ := trod_struct2 he hy
    rw [o0, c0, List.drop_zero] at q0
    rw [o1, c1] at q1
    obtain ⟨a, ha, _, _⟩ := DataW.trod_int t0 q0
    obtain ⟨k, hk, hkl⟩ := read_arrC t1 hu cu (by simp; omega) q1
    refine ⟨⟨a, k⟩, ?_, hkl⟩
    have e1 : cs' = cs'.take 1 ++ (cs'.drop 1).take 32 := by
      rw [List.take_of_length_le (l := cs'.drop 1) (by simp; omega), List.take_append_drop]
    rw [e1, ha, hk]
    show _ = Value.int .i64 a :: kc k
    rw [kc_eq hkl]; rfl) h
  exact ⟨l, h1, fun x hx => by obtain ⟨i, hi⟩ := List.mem_iff_getElem?.1 hx; exact h3 i x hi⟩
theorem cut8 {cs : List Value} (h : cs.length = 70) : cs = (cs.drop 0).take 1 ++ ((cs.drop 1).take 1 ++ ((cs.drop 2).take 32 ++ ((cs.drop 34).take 32 ++ ((cs.drop 66).take 1 ++ ((cs.drop 67).take 1 ++ ((cs.drop 68).take 1 ++ (cs.drop 69).take 1)))))) := by
  have st : ∀ a n b : Nat, b = a + n → cs.drop a = (cs.drop a).take n ++ cs.drop b := fun a n b hb => by
    subst hb
    conv => lhs; rw [← List.take_append_drop n (cs.drop a), List.drop_drop]
  have e7 : cs.drop 69 = (cs.drop 69).take 1 := (List.take_of_length_le (by simp; omega)).symm
  calc cs = cs.drop 0 := rfl
    _ = _ := by rw [← e7, ← st 68 1 69 rfl, ← st 67 1 68 rfl, ← st 66 1 67 rfl, ← st 34 32 66 rfl, ← st 2 32 34 rfl, ← st 1 1 2 rfl, ← st 0 1 1 rfl]
theorem read_sq {r : Reach} {b0 : Nat} {t tI tS tA tL tB e : TypeId} {fs : Array Field} {f0 f1 : Field} {u8 : TypeId} {v : Value} {d : DataW H} {p : List MemPlace} (ht : P.underlying t = some (.struct fs)) (hs : P.cellsOf t = 70) (hf : fs.toList.map (fun f => (f.type, f.offset)) = [(tI, 0), (tS, 1), (tA, 2), (tA, 34), (tL, 66), (tI, 67), (tI, 68), (tB, 69)])
    (uI : P.underlying tI = some (.int .i64)) (uS : P.underlying tS = some .string) (uA : P.underlying tA = some (.array 32 u8)) (uL : P.underlying tL = some (.slice e)) (uB : P.underlying tB = some .bool) (cI : P.cellsOf tI = 1) (cS : P.cellsOf tS = 1) (cA : P.cellsOf tA = 32) (cL : P.cellsOf tL = 1) (cB : P.cellsOf tB = 1)
    (he : P.underlying e = some (.struct #[f0, f1])) (hc : P.cellsOf e = 33) (o0 : f0.offset = 0) (o1 : f1.offset = 1) (c0 : P.cellsOf f0.type = 1) (c1 : P.cellsOf f1.type = 32) (t0 : P.underlying f0.type = some (.int .i64)) (t1 : P.underlying f1.type = some (.array 32 u8)) (hu : P.underlying u8 = some (.int .u8)) (cu : P.cellsOf u8 = 1)
    (hok : Value.okWide P W r b0 t v) (h : DataW.Trod enc P W base sp held t v d p) : ∃ x : Sq, v = qv x ∧ RdT W.heap fT 33 x.tv.v x.td ∧ SqW x := by
  obtain ⟨cs, rfl, hsz⟩ := okWide_struct ht hok
  obtain ⟨fuel, h⟩ := h
  obtain ⟨xs, n, _, _, hl, hlen, hE⟩ := DataW.trod_struct ht h
  have hcl : cs.toList.length = 70 := by simp only [Value.cells] at hl; rw [hl, hs]
  have G : ∀ {j : Nat} {ty o c : Nat}, [(tI, 0), (tS, 1), (tA, 2), (tA, 34), (tL, 66), (tI, 67), (tI, 68), (tB, 69)][j]? = some (ty, o) → P.cellsOf ty = c → j < 8 → ∃ y, DataW.trod enc P W base sp held n ty ((cs.toList.drop o).take c) = some y := by
    intro j ty o c h1 h2 hj
    obtain ⟨f, q1, rfl, rfl⟩ := fld hf h1
    have q2 := hE j f q1
    rw [h2] at q2
    have hx : j < xs.length := by
      have := congrArg List.length hf
      simp at this; omega
    rw [List.getElem?_eq_getElem hx] at q2
    exact ⟨_, q2⟩
  obtain ⟨y0, q0⟩ := G (j := 0) rfl cI (by decide)
  obtain ⟨y1, q1⟩ := G (j := 1) rfl cS (by decide)
  obtain ⟨y2, q2⟩ := G (j := 2) rfl cA (by decide)
  obtain ⟨y3, q3⟩ := G (j := 3) rfl cA (by decide)
  obtain ⟨y4, q4⟩ := G (j := 4) rfl cL (by decide)
  obtain ⟨y5, q5⟩ := G (j := 5) rfl cI (by decide)
  obtain ⟨y6, q6⟩ := G (j := 6) rfl cI (by decide)
  obtain ⟨y7, q7⟩ := G (j := 7) rfl cB (by decide)
  obtain ⟨k, e0, _, _⟩ := DataW.trod_int uI q0
  obtain ⟨s, e1, _, hsl⟩ := DataW.trod_string uS q1
  obtain ⟨og, e2, ho⟩ := read_arrC uA hu cu (by simp [hcl]) q2
  obtain ⟨cc, e3, hcc⟩ := read_arrC uA hu cu (by simp [hcl]) q3
  obtain ⟨u, hu1⟩ : ∃ u, (cs.toList.drop 66).take 1 = [u] := List.length_eq_one_iff.1 (by simp [hcl])
  rw [hu1] at q4
  obtain ⟨tv, rfl⟩ := slice_cell uL q4
  obtain ⟨l, hl1, hl2⟩ := read_tds rfl uL he hc o0 o1 c0 c1 t0 t1 hu cu (show DataW.Trod enc P W base sp held tL tv.v y4.1 y4.2 from ⟨n, q4⟩)
  obtain ⟨dn, e5, _, _⟩ := DataW.trod_int uI q5
  obtain ⟨md, e6, _, _⟩ := DataW.trod_int uI q6
  obtain ⟨st, e7, _⟩ := DataW.trod_bool uB q7
  refine ⟨⟨k, s.data.toList, og, cc, tv, l, dn, md, st⟩, ?_, hl1, ho, hcc, hl2, ?_⟩
  · have e := cut8 hcl
    rw [e0, e1, e2, e3, hu1, e5, e6, e7] at e
    show Value.agg cs = _
    congr 1
    apply Array.ext'
    rw [e]
    simp only [fQ, fQe, kc_eq ho, kc_eq hcc]
    simp [Str]
  · have : s.data.toList.length = s.size := Array.length_toList
    unfold maxLen at hsl
    simp only; omega
end

end Go.Proofs.YtabopjdbgkhacaaDoor.SeqN
