/-
  slices.SortFunc over owned rows, by the shelf's contract: no condition.
-/
import Derived.Shelf.SlSortCmp.NoneTotal
import Derived.Test.YtepdhokpfecdnaaMp
namespace Go.Proofs.Ytepdhokpfecdnaa.E
open Go.Shelf Go.Sort
set_option linter.unusedVariables false
set_option linter.unusedSimpArgs false
set_option linter.unusedSectionVars false
section
variable {P : Program} {w0 : World} {H H' : Heap} {args : Array Value} {v : Value} {fn : FuncId}
theorem World.of_grown {W w' : World} (ha : At W H' w') (hs : Nw W.heap H') : ∃ q os', w' = grow (W.drewN q) os' := by
  refine ⟨w'.drawn - W.drawn, H'.extract W.heap.size H'.size, ?_⟩
  have e1 : w'.heap = W.heap ++ H'.extract W.heap.size H'.size := by
    rw [ha.heap]
    apply Array.ext_getElem?
    intro i
    by_cases hi : i < W.heap.size
    · rw [Array.getElem?_append_left hi]
      exact hs.same i hi (fun e => e)
    · rw [Array.getElem?_append_right (by omega), Array.getElem?_extract]
      have hsz := hs.size
      by_cases h2 : i < H'.size
      · rw [if_pos (by omega)]
        congr 1; omega
      · rw [if_neg (by omega), Array.getElem?_eq_none (by omega)]
  have e2 : W.drawn + (w'.drawn - W.drawn) = w'.drawn := by have := ha.dr; omega
  obtain ⟨h, t, d, o, p⟩ := w'
  have a1 := ha.os; have a2 := ha.tape; have a3 := ha.output
  simp only at a1 a2 a3 e1 e2
  subst a1 a2 a3
  simp only [grow, World.drewN, e2, ← e1]
theorem Ct.grown (h : ∀ w0 H0, Ct P w0 fn args H0 (fun r H2 => r = v ∧ Nw H0 H2)) (W : World) : Calls P fn args W fun e w' => e = .returned v ∧ ∃ q os', w' = grow (W.drewN q) os' :=
  (h W W.heap W ⟨rfl, rfl, rfl, rfl, Nat.le_refl _⟩).mono (fun e w' ⟨r, H', he, ha, hr, hn⟩ => ⟨by rw [he, hr], World.of_grown ha hn⟩)
end
section
variable {α : Type} [Inhabited α] {f : α → List Value} {sz : Nat}
theorem flatK_list (hf : ∀ x, (f x).length = sz) (l : List α) : flatK f sz l.toArray = (l.flatMap f).toArray := by
  refine Array.ext_getElem? (fun t => ?_)
  have hs : (flatK f sz l.toArray).size = l.length * sz := by simp
  have hl := length_flatMap hf l
  by_cases ht : t < l.length * sz
  · have h1 := get_flatK f sz l.toArray t (by simpa using ht)
    have hpos : 0 < sz := by rcases Nat.eq_zero_or_pos sz with h | h; rw [h] at ht; simp at ht; exact h
    have hdiv : t / sz < l.length := Nat.div_lt_of_lt_mul (by rw [Nat.mul_comm]; exact ht)
    have hm := Nat.mod_lt t hpos
    have h2 := get_flatMap hf l (t / sz) (t % sz) l[t / sz] ((f l[t / sz])[t % sz]'(by rw [hf]; exact hm)) (by simp [hdiv]) (by simp [hf, hm])
    have hqq : t / sz * sz + t % sz = t := by rw [Nat.mul_comm]; exact Nat.div_add_mod t sz
    rw [hqq] at h2
    rw [Array.getElem?_eq_getElem (by rw [hs]; exact ht), ← getElem!_pos (flatK f sz l.toArray) t (by rw [hs]; exact ht), h1, List.getElem?_toArray, h2]
    congr 1
    rw [getElem!_pos l.toArray (t / sz) (by simpa using hdiv), List.getElem_toArray, getElem!_pos (f l[t / sz]) (t % sz) (by rw [hf]; exact hm)]
  · rw [Array.getElem?_eq_none (by omega), List.getElem?_toArray, List.getElem?_eq_none (by omega)]
theorem putCells_take (F cur : Array Value) (h : F.size ≤ cur.size) : (putCells id 0 F cur).size = cur.size ∧ (putCells id 0 F cur).toList.take F.size = F.toList := by
  refine ⟨by simp [putCells], ?_⟩
  apply List.ext_getElem?
  intro i
  rw [List.getElem?_take]
  split
  · rename_i hi
    rw [Array.getElem?_toList, Array.getElem?_toList, Array.getElem?_eq_getElem (by simp [putCells]; omega), Array.getElem?_eq_getElem hi]
    simp only [putCells, Array.getElem_mapIdx, Nat.zero_le, Nat.zero_add, true_and, Nat.sub_zero]
    rw [if_pos hi, getElem!_pos F i hi]; rfl
  · rw [Array.getElem?_toList, Array.getElem?_eq_none (by omega)]
variable {P : Program} {ρ : Ren} {w0 : World} {H : Heap} {k : Nat} {e : TypeId} {v : Value} {l : List α}
/-- slices.SortFunc: the row is a permutation, sorted -/
theorem Ct.sortf (L : SlLaysF0.n6 P ρ) (aE : ∀ w, (isAgg (ρ.t 24)).run P w = .ok true w) (zE : ∀ w, (Go.sizeOf (ρ.t 24)).run P w = .ok sz w) (cf : α → α → Int) (hO : SWO (ltOf cf)) (g : Nat)
    (eg : ∀ args w, (callFunc g args).run P w = .ok (.enter g args) w) (hcmp : ∀ w0 H0 x y, Ct P w0 g #[.agg (f x).toArray, .agg (f y).toArray] H0 (fun r H2 => r = .int .i64 (cf x y) ∧ Nw H0 H2)) (h : Ow k e H f sz v l) (hl : l.length < 4611686018427387904) :
    Ct P w0 (ρ.f 6) #[v, .func (.func g) #[] #[]] H (fun r H2 => ∃ l', r = .tuple #[] ∧ Ow k e H2 f sz v l' ∧ Nx k H.size k ∧ (l'.Perm l ∧ l'.Pairwise (fun x y => ¬ cf y x < 0)) ∧ Mo (Ms [k]) H H2) := by
  intro w ha
  rcases h.own.ex with ⟨hv, hx⟩ | ⟨g', cap, cur, hv, hk, hr, h1, h2, h3, h4⟩
  · subst hv hx
    exact (AnyF.slices_SortFunc_none L none 0 (.func (.func g) #[] #[]) w).mono (fun e w' ⟨he, hw⟩ => ⟨_, H, he, by rw [hw]; exact ha, [], rfl, h, Nx.refl _ _, ⟨List.Perm.refl _, List.Pairwise.nil⟩, Mo.refl _ _⟩)
  · have hf := h.own.cells
    obtain ⟨fz, hh, hsf⟩ := id hr
    have hwb : w.heap[g']? = some (.cells cur e fz) := by rw [ha.heap]; exact hh
    have hle : l.length * sz ≤ cur.size := by rw [h3]; exact Nat.mul_le_mul_right _ h1
    have hH : HoldsK f sz w g' 0 l.toArray := by
      intro j hj
      rw [flatK_list hf] at hj ⊢
      have hj2 : j < l.length * sz := by rw [← length_flatMap hf l]; simpa using hj
      have hc : cur[j]? = (l.flatMap f)[j]? := by rw [← h4, List.getElem?_take, if_pos hj2, Array.getElem?_toList]
      have hjl : j < (l.flatMap f).length := by rw [length_flatMap hf]; exact hj2
      refine ⟨?_, ?_⟩
      · simp only [World.cell?, hwb, Nat.zero_add, Option.isSome_none, Bool.false_eq_true, if_false, id_eq]
        rw [hc, List.getElem?_eq_getElem hjl, getElem!_pos (l.flatMap f).toArray j (by simpa using hjl)]; simp
      · have := hsf.2 j (by omega)
        simp only [World.frozen?, hwb, Nat.zero_add]
        simpa using this
    have hg : g' < w.heap.size := by rw [ha.heap]; exact hr.lt
    have hcon := AnyQ.slices_SortFunc L sz aE zE f hf h.own.one cf hO g #[] g' 0 cap l.toArray w eg (fun m os dk hs x y => Ct.grown (fun w0 H0 => hcmp w0 H0 x y) _) hH hg (by simpa using hl)
    rw [List.size_toArray, ← hv] at hcon
    refine hcon.mono ?_
    rintro en w' ⟨he, d', n, os, hp, hs, rfl⟩
    obtain ⟨p1, _, p3⟩ := hp
    simp only [List.size_toArray] at p1
    have hd : d'.toList.length = l.length := by simpa using p1
    have hperm : d'.toList.Perm l := by
      rw [List.extract_toArray] at p3
      simp only [Array.toList_extract, List.size_toArray, List.extract_eq_take_drop, List.drop_zero, Nat.sub_zero] at p3
      rwa [List.take_of_length_le (by omega), List.take_of_length_le (by omega)] at p3
    obtain ⟨hF1, hF2⟩ := putCells_take (flatK f sz d') cur (by rw [size_flatK, p1]; exact hle)
    have hfl : (flatK f sz d').toList = d'.toList.flatMap f := by
      have := flatK_list hf d'.toList
      rw [Array.toArray_toList] at this
      rw [this]
    have hheap : (sortWorldK f sz w g' 0 n d' os).heap = w.heap.modify g' (onCells (putCells id 0 (flatK f sz d'))) ++ os := rfl
    have hat : (sortWorldK f sz w g' 0 n d' os).heap[g']? = some (.cells (putCells id 0 (flatK f sz d') cur) e fz) := by
      rw [hheap, Array.getElem?_append_left (by simpa using hg), Array.getElem?_modify, if_pos rfl, hwb]; rfl
    refine ⟨_, (sortWorldK f sz w g' 0 n d' os).heap, he, ⟨rfl, ha.os, ha.tape, ha.output, Nat.le_trans ha.dr (Nat.le_add_right _ _)⟩, d'.toList, rfl, ⟨⟨hf, h.own.one, .inr ⟨g', cap, _, by rw [hd]; exact hv, hk, ⟨fz, hat, by rw [hF1]; exact hsf⟩, by rw [hd]; exact h1, h2, by rw [hF1]; exact h3, ?_⟩⟩, ?_⟩, Nx.refl _ _, ⟨hperm, ?_⟩, ?_, ?_⟩
    · rw [← hfl, ← hF2, size_flatK, Array.length_toList]
    · rw [hheap]
      have := h.le
      simp [ha.heap]; omega
    · rw [List.pairwise_iff_getElem]
      intro i j hi hj hij
      have := hs i j (Nat.zero_le _) hij (by omega)
      rw [getElem!_pos d' j (by simpa using hj), getElem!_pos d' i (by simpa using hi)] at this
      simpa [ltOf] using this
    · rw [hheap]; simp [ha.heap]
    · intro b hb hn
      have hne : g' ≠ b := fun q => hn (by unfold Ms; rw [← q]; simp [hk])
      rw [hheap, Array.getElem?_append_left (by simp [ha.heap, hb]), Array.getElem?_modify, if_neg hne, ha.heap]
end
end Go.Proofs.Ytepdhokpfecdnaa.E
