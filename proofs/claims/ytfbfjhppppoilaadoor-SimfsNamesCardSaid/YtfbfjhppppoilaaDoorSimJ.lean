/-
  Texts that are sorted.
-/
import Derived.Sort.Walk0
import Derived.Test.YtfbfjhppppoilaaDoorSimI
namespace Go.Proofs.YtfbfjhppppoilaaDoor.SimJ
open Go.Proofs.YtfbfjhppppoilaaDoor.E Go.RowKit Go.Proofs.YtfbfjhppppoilaaDoor.SimA Go.Proofs.YtfbfjhppppoilaaDoor.SimB Go.Proofs.YtfbfjhppppoilaaDoor.SimC Go.Proofs.YtfbfjhppppoilaaDoor.SimD Go.Proofs.YtfbfjhppppoilaaDoor.SimE Go.Proofs.YtfbfjhppppoilaaDoor.SimF Go.Proofs.YtfbfjhppppoilaaDoor.SimG Go.Proofs.YtfbfjhppppoilaaDoor.SimH Go.Proofs.YtfbfjhppppoilaaDoor.SimI
set_option maxRecDepth 20000
set_option linter.unusedVariables false
set_option linter.unusedSimpArgs false
set_option linter.unusedSectionVars false

open Go.Sort Go.Shelf
theorem blt_lt (a b : Pth) : blt a b ↔ a < b := by unfold blt; rw [bytesLess_eq, decide_eq_true_iff]
theorem not_blt {a b : Pth} (h : a ≤ b) : ¬ blt b a := by rw [blt_lt]; exact List.not_lt.2 h
theorem sorted_rise {l m : List Pth} (hn : l.Nodup) (h : m = l.mergeSort (fun x y => decide (x ≤ y))) : Rise m ∧ m.Perm l := by
  subst h
  have hp := List.mergeSort_perm l (fun x y => decide (x ≤ y))
  have hs : (l.mergeSort (fun x y => decide (x ≤ y))).Pairwise (fun x y => decide (x ≤ y) = true) := List.pairwise_mergeSort (le := fun x y : List UInt8 => decide (x ≤ y)) (fun a b c h1 h2 => by
    simp only [decide_eq_true_eq] at *; exact List.le_trans h1 h2) (fun a b => by
    simp only [Bool.or_eq_true, decide_eq_true_eq]; exact List.le_total a b) l
  have hn2 : (l.mergeSort (fun x y => decide (x ≤ y))).Nodup := hp.nodup_iff.2 hn
  refine ⟨?_, hp⟩
  unfold Rise
  rw [List.nodup_iff_pairwise_ne] at hn2
  refine (hs.and hn2).imp (fun {x y} h => ?_)
  obtain ⟨h1, h2⟩ := h
  refine Classical.byContradiction (fun h3 => h2 (blt_total h3 ?_))
  simp only [decide_eq_true_eq] at h1
  exact not_blt h1
theorem flatS : ∀ l : List Pth, l.flatMap fS = l.map Str
  | [] => rfl
  | x :: l => by rw [List.flatMap_cons, flatS l]; rfl
theorem encStr_S (x : Pth) : encStr x = Str x := rfl
theorem putCells_S (d : Array Pth) (cur : Array Value) (h : d.size ≤ cur.size) : (putCells encStr 0 d cur).size = cur.size ∧ (putCells encStr 0 d cur).toList.take d.size = d.toList.flatMap fS := by
  refine ⟨by simp [putCells], ?_⟩
  rw [flatS]
  apply List.ext_getElem?
  intro i
  rw [List.getElem?_take]
  split
  · rename_i hi
    rw [Array.getElem?_toList, List.getElem?_map, Array.getElem?_toList, Array.getElem?_eq_getElem (by simp [putCells]; omega), Array.getElem?_eq_getElem hi]
    simp only [putCells, Array.getElem_mapIdx, Nat.zero_le, Nat.zero_add, true_and, Nat.sub_zero]
    rw [if_pos hi, getElem!_pos d i hi]; rfl
  · rw [List.getElem?_map, Array.getElem?_toList, Array.getElem?_eq_none (by omega)]; rfl
theorem sortS_ct (k : Nat) (v : Value) (l : List Pth) (w0 : World) (H : Heap) (h : Ow k 9 H fS 1 v l) (hl : l.length < 4611686018427387904) :
    Ct Tryd.prog w0 64 #[v] H (fun r H2 => ∃ l2 : List Pth, ∃ k2 : Nat, r = .tuple #[] ∧ Ow k2 9 H2 fS 1 v l2 ∧ Nx k H.size k2 ∧ (l2 = l.mergeSort (fun x y => decide (x ≤ y))) ∧ Mo (Ms [k]) H H2) := by
  intro w ha
  rcases h.own.ex with ⟨hv, hx⟩ | ⟨g', cap, cur, hv, hk, hr, h1, h2, h3, h4⟩
  · subst hv hx
    exact (Any.slices_Sort_string_none Tryd.lays190 none 0 w).mono (fun e w' ⟨he, hw⟩ => ⟨_, H, he, by rw [hw]; exact ha, [], k, rfl, h, Nx.refl _ _, by simp, Mo.refl _ _⟩)
  · obtain ⟨fz, hh, hsf⟩ := id hr
    have hwb : w.heap[g']? = some (.cells cur 9 fz) := by rw [ha.heap]; exact hh
    have hle : l.length ≤ cur.size := by rw [h3]; omega
    have hH : Holds encStr w g' 0 l.toArray := by
      intro j hj
      have hjl : j < l.length := by simpa using hj
      have hc : cur[j]? = some (Str l[j]) := by
        have : (cur.toList.take (l.length * 1))[j]? = (l.flatMap fS)[j]? := by rw [h4]
        rw [List.getElem?_take, if_pos (by omega), Array.getElem?_toList, flatS] at this
        rw [this, List.getElem?_map, List.getElem?_eq_getElem hjl]; rfl
      refine ⟨?_, ?_⟩
      · simp only [World.cell?, hwb, Nat.zero_add, Option.isSome_none, Bool.false_eq_true, if_false, id_eq]
        rw [hc, getElem!_pos l.toArray j hj]; rfl
      · have := hsf.2 j (by omega)
        simp only [World.frozen?, hwb, Nat.zero_add]
        simpa using this
    have hg : g' < w.heap.size := by rw [ha.heap]; exact hr.lt
    have hcon := Any.slices_Sort_string Tryd.lays190 g' 0 cap l w hH hg hl
    rw [← hv] at hcon
    refine hcon.mono ?_
    rintro en w' ⟨he, n, os, rfl⟩
    have hd : (l.mergeSort fun x y => decide (x ≤ y)).length = l.length := List.length_mergeSort l
    obtain ⟨hF1, hF2⟩ := putCells_S (l.mergeSort fun x y => decide (x ≤ y)).toArray cur (by simp; exact hle)
    have hheap : (grow (putRow encStr (Sort.ahead w n) g' 0 (l.mergeSort fun x y => decide (x ≤ y)).toArray) os).heap = w.heap.modify g' (onCells (putCells encStr 0 (l.mergeSort fun x y => decide (x ≤ y)).toArray)) ++ os := rfl
    have hat : (grow (putRow encStr (Sort.ahead w n) g' 0 (l.mergeSort fun x y => decide (x ≤ y)).toArray) os).heap[g']? = some (.cells (putCells encStr 0 (l.mergeSort fun x y => decide (x ≤ y)).toArray cur) 9 fz) := by
      rw [hheap, Array.getElem?_append_left (by simpa using hg), Array.getElem?_modify, if_pos rfl, hwb]; rfl
    refine ⟨_, (grow (putRow encStr (Sort.ahead w n) g' 0 (l.mergeSort fun x y => decide (x ≤ y)).toArray) os).heap, he, ⟨rfl, ha.os, ha.tape, ha.output, Nat.le_trans ha.dr (Nat.le_add_right _ _)⟩, _, k, rfl, ⟨⟨fS_len, fS_one, .inr ⟨g', cap, _, by rw [hd]; exact hv, hk, ⟨fz, hat, by rw [hF1]; exact hsf⟩, by rw [hd]; exact h1, h2, by rw [hF1]; exact h3, ?_⟩⟩, ?_⟩, Nx.refl _ _, rfl, ?_, ?_⟩
    · simpa using hF2
    · rw [hheap]
      have := h.le
      simp [ha.heap]; omega
    · rw [hheap]; simp [ha.heap]
    · intro b hb hn
      have hne : g' ≠ b := fun q => hn (by unfold Ms; rw [← q]; simp [hk])
      rw [hheap, Array.getElem?_append_left (by simp [ha.heap, hb]), Array.getElem?_modify, if_neg hne, ha.heap]

end Go.Proofs.YtfbfjhppppoilaaDoor.SimJ
