/-
  The disk: how large it may grow, operation by operation: plain data.
-/
import Derived.Test.YtfbfjhppppoilaaDoorSimP
namespace Go.Proofs.YtfbfjhppppoilaaDoor.SimQ
open Go.Proofs.YtfbfjhppppoilaaDoor.E Go.RowKit Go.Proofs.YtfbfjhppppoilaaDoor.SimA Go.Proofs.YtfbfjhppppoilaaDoor.SimB Go.Proofs.YtfbfjhppppoilaaDoor.SimC Go.Proofs.YtfbfjhppppoilaaDoor.SimD Go.Proofs.YtfbfjhppppoilaaDoor.SimE Go.Proofs.YtfbfjhppppoilaaDoor.SimF Go.Proofs.YtfbfjhppppoilaaDoor.SimG Go.Proofs.YtfbfjhppppoilaaDoor.SimH Go.Proofs.YtfbfjhppppoilaaDoor.SimI Go.Proofs.YtfbfjhppppoilaaDoor.SimJ Go.Proofs.YtfbfjhppppoilaaDoor.SimK Go.Proofs.YtfbfjhppppoilaaDoor.SimL Go.Proofs.YtfbfjhppppoilaaDoor.SimM Go.Proofs.YtfbfjhppppoilaaDoor.SimN Go.Proofs.YtfbfjhppppoilaaDoor.SimP
set_option maxRecDepth 20000
set_option linter.unusedVariables false
set_option linter.unusedSimpArgs false
set_option linter.unusedSectionVars false

def Fsb (n : Nat) (x : Fdt) : Prop := x.now.length ≤ n ∧ x.stays.length ≤ n ∧ x.w.length ≤ n ∧ (∀ y ∈ x.w, y.d.length ≤ n) ∧ ∀ j, (onAll (x.w.take j) x.stays).length ≤ n
theorem Fsb.mono {n m : Nat} {x : Fdt} (h : Fsb n x) (hm : n ≤ m) : Fsb m x := ⟨Nat.le_trans h.1 hm, Nat.le_trans h.2.1 hm, Nat.le_trans h.2.2.1 hm, fun y hy => Nat.le_trans (h.2.2.2.1 y hy) hm, fun j => Nat.le_trans (h.2.2.2.2 j) hm⟩
theorem Fsb.nil (n : Nat) : Fsb n ⟨[], [], []⟩ := ⟨Nat.zero_le _, Nat.zero_le _, Nat.zero_le _, nofun, fun j => by simp [onAll]⟩
theorem Fsb.flat {n : Nat} {l : List UInt8} (h : l.length ≤ n) : Fsb n ⟨l, l, []⟩ := ⟨h, h, Nat.zero_le _, nofun, fun j => by simpa [onAll] using h⟩
/-- every name is one of these -/
def Inn (U : List Pth) (l : Nms) : Prop := ∀ q, (mget l q).isSome = true → q ∈ U
structure Bs (n : Nat) (D : Dk) : Prop where
  an : Asc D.now
  ast : Asc D.stays
  lg : D.log.length ≤ n
  op : D.ops ≤ n
  fl : D.fs.length ≤ n
  f : ∀ i, Fsb n (fget D.fs i)
  un : ∃ U : List Pth, U.length ≤ n ∧ Inn U D.now ∧ Inn U D.stays ∧ ∀ c ∈ D.log, ∀ i, c.f = some i → c.n ∈ U
  ld : ∀ c ∈ D.log, ∀ i, c.f = some i → dirP c.n = c.dir
theorem Bs.mono {n m : Nat} {D : Dk} (h : Bs n D) (hm : n ≤ m) : Bs m D := ⟨h.an, h.ast, Nat.le_trans h.lg hm, Nat.le_trans h.op hm, Nat.le_trans h.fl hm, fun i => (h.f i).mono hm, by obtain ⟨U, h1, h2⟩ := h.un; exact ⟨U, Nat.le_trans h1 hm, h2⟩, h.ld⟩
theorem usedL_le {fs : List Fdt} {n : Nat} (h : ∀ i, (fget fs i).now.length ≤ n) : ∀ l : Nms, usedL fs l ≤ l.length * n
  | [] => by simp [usedL]
  | x :: l => by
    have h1 := usedL_le h l
    have h2 := h x.2
    unfold usedL at h1 ⊢
    rw [List.map_cons, List.sum_cons, List.length_cons, Nat.add_mul]
    omega
theorem inn_len {U : List Pth} {l : Nms} (hA : Asc l) (h : Inn U l) : l.length ≤ U.length := by
  have := nodup_le hA.nodup (fun k hk => h k (isSome_iff_key.2 hk))
  rwa [List.length_map] at this
theorem Bs.bd {n : Nat} {D : Dk} (h : Bs n D) (hn : n ≤ 1073741824) : Bd 274877906944 D := by
  obtain ⟨U, h1, h2, h3, h4⟩ := h.un
  have e1 := inn_len h.an h2
  have e2 := inn_len h.ast h3
  have e3 := usedL_le (fun i => (h.f i).1) D.now
  have e4 : D.now.length * n ≤ 1073741824 * 1073741824 := Nat.mul_le_mul (by omega) hn
  exact ⟨h.an, h.ast, by unfold Dk.used; omega, by have := h.lg; omega, by have := h.op; omega, fun i => by have := (h.f i).1; omega, fun i => by have := (h.f i).2.1; omega, fun i => by have := (h.f i).2.2.1; omega, fun i y hy => by have := (h.f i).2.2.2.1 y hy; omega, by omega, by omega, by have := h.fl; omega, fun i j => by have := (h.f i).2.2.2.2 j; omega, h.ld⟩
theorem ways_bd {n : Nat} : ∀ {ws : List Wr}, (∀ y ∈ ws, y.d.length ≤ n) → (ws.map Wr.ways).sum ≤ ws.length * (2 * n + 1)
  | [], _ => by simp
  | w :: ws, h => by
    have h1 := ways_bd (ws := ws) (fun y hy => h y (List.mem_cons_of_mem _ hy))
    have h2 := h w List.mem_cons_self
    have h3 : w.ways ≤ 2 * n + 1 := by unfold Wr.ways; omega
    rw [List.map_cons, List.sum_cons, List.length_cons, Nat.add_mul]
    omega
theorem Bs.wy {n : Nat} {D : Dk} (h : Bs n D) (hn : n ≤ 536870912) (i : Nat) : waysF (fget D.fs i).w ≤ 2305843009213693952 := by
  unfold waysF
  have h1 := ways_bd (h.f i).2.2.2.1
  have h2 : (fget D.fs i).w.length * (2 * n + 1) ≤ 536870912 * 1073741825 := Nat.mul_le_mul (by have := (h.f i).2.2.1; omega) (by omega)
  omega
theorem Bs.empty (cap most : Nat) : Bs 0 (Dk.empty cap most) :=
  ⟨List.Pairwise.nil, List.Pairwise.nil, Nat.le_refl _, Nat.le_refl _, Nat.le_refl _, fun i => by show Fsb 0 (List.getD [] i _); simpa using Fsb.nil 0, ⟨[], Nat.le_refl _, nofun, nofun, nofun⟩, nofun⟩
theorem Bs.begin {n : Nat} {D : Dk} (h : Bs n D) : Bs (n + 1) D.begin.2 := by
  obtain ⟨e1, e2, e3, e4, e5, e6, e7⟩ := begin_same D
  have h := h.mono (Nat.le_succ n)
  exact ⟨by rw [e4]; exact h.an, by rw [e5]; exact h.ast, by rw [e6]; exact h.lg, by have := Bs.op ‹Bs n D›; omega, by rw [e3]; exact h.fl, by rw [e3]; exact h.f, by rw [e4, e5, e6]; exact h.un, by rw [e6]; exact h.ld⟩
theorem inn_nput {U : List Pth} {l : Nms} {p : Pth} {i : Nat} (h : Inn U l) (hp : p ∈ U) : Inn U (nput l p i) := fun q hq => by
  rw [mget_nput] at hq
  by_cases e : q = p
  · rw [e]; exact hp
  · rw [if_neg e] at hq; exact h q hq
theorem inn_ap {U : List Pth} {l : Nms} {c : Chg} (h : Inn U l) (hc : ∀ i, c.f = some i → c.n ∈ U) : Inn U (c.ap l) := fun q hq => by
  rw [mget_ap] at hq
  unfold Chg.at at hq
  cases hf : c.f with
  | none =>
    rw [hf] at hq
    simp only at hq
    split at hq
    · cases hq
    · exact h q hq
  | some i =>
    rw [hf] at hq
    simp only at hq
    split at hq
    · rename_i e; rw [e]; exact hc i hf
    · split at hq
      · cases hq
      · exact h q hq
theorem inn_apl {U : List Pth} : ∀ {cs : List Chg} {l : Nms}, Inn U l → (∀ c ∈ cs, ∀ i, c.f = some i → c.n ∈ U) → Inn U (apl cs l)
  | [], l, h, _ => h
  | c :: cs, l, h, hc => inn_apl (cs := cs) (inn_ap h (hc c List.mem_cons_self)) (fun d hd => hc d (List.mem_cons_of_mem _ hd))
theorem Bs.put {n : Nat} {D : Dk} (h : Bs n D) (i : Nat) {x : Fdt} (hx : Fsb n x) : Bs n (D.putF i x) :=
  ⟨h.an, h.ast, h.lg, h.op, by rw [fl_put]; exact h.fl, fun j => by
    by_cases hi : i < D.fs.length
    · by_cases e : j = i
      · subst e; rw [fget_put hi]; exact hx
      · show Fsb n ((D.fs.set i x).getD j _)
        rw [List.getD_eq_getElem?_getD, List.getElem?_set_ne (Ne.symm e), ← List.getD_eq_getElem?_getD]; exact h.f j
    · show Fsb n ((D.fs.set i x).getD j _)
      rw [List.set_eq_of_length_le (by omega)]; exact h.f j, h.un, h.ld⟩
theorem Bs.change {n : Nat} {D : Dk} (h : Bs n D) (c : Chg) (hd : ∀ i, c.f = some i → dirP c.n = c.dir) : Bs (n + 1) (D.change c) := by
  obtain ⟨U, h1, h2, h3, h4⟩ := h.un
  refine ⟨asc_ap h.an c, h.ast, by show (D.log ++ [c]).length ≤ _; have := h.lg; simp; omega, Nat.le_succ_of_le h.op, Nat.le_succ_of_le h.fl, fun i => (h.f i).mono (Nat.le_succ _), ⟨c.n :: U, by simp; omega, inn_ap (fun q hq => List.mem_cons_of_mem _ (h2 q hq)) (fun _ _ => List.mem_cons_self), fun q hq => List.mem_cons_of_mem _ (h3 q hq), fun d hd2 i hi => ?_⟩, fun d hd2 i hi => ?_⟩
  · rcases List.mem_append.1 hd2 with hd2 | hd2
    · exact List.mem_cons_of_mem _ (h4 d hd2 i hi)
    · rw [List.mem_singleton.1 hd2]; exact List.mem_cons_self
  · rcases List.mem_append.1 hd2 with hd2 | hd2
    · exact h.ld d hd2 i hi
    · rw [List.mem_singleton.1 hd2] at hi ⊢; exact hd i hi
theorem Bs.addf {n : Nat} {D : Dk} (h : Bs n D) : Bs (n + 1) ({ D with fs := D.fs ++ [⟨[], [], []⟩] } : Dk) :=
  ⟨h.an, h.ast, Nat.le_succ_of_le h.lg, Nat.le_succ_of_le h.op, by have := h.fl; simp; omega, fun i => by
    show Fsb (n + 1) ((D.fs ++ [(⟨[], [], []⟩ : Fdt)]).getD i ⟨[], [], []⟩)
    rw [List.getD_eq_getElem?_getD, List.getElem?_append]
    split
    · rw [← List.getD_eq_getElem?_getD]; exact (h.f i).mono (Nat.le_succ _)
    · by_cases e : i - D.fs.length = 0
      · rw [e]; exact Fsb.nil _
      · rw [List.getElem?_eq_none (by simp; omega)]; exact Fsb.nil _, (h.mono (Nat.le_succ _)).un, h.ld⟩
theorem Bs.make {n : Nat} {D : Dk} (h : Bs n D) (p : Pth) : Bs (n + 2) (D.make p).1 := by
  unfold Dk.make
  split
  · exact h.mono (by omega)
  · refine h.addf.change _ (fun i _ => ?_)
    simp [Chg.dir]
theorem Fsb.laid {n : Nat} {x : Fdt} (h : Fsb n x) (w : Wr) : Fsb (n + w.d.length + 1) ⟨w.on x.now w.d.length, x.stays, x.w ++ [w]⟩ := by
  obtain ⟨h1, h2, h3, h4, h5⟩ := h
  have h6 := on_le w x.now w.d.length
  refine ⟨by show (w.on x.now w.d.length).length ≤ _; omega, by show x.stays.length ≤ _; omega, by show (x.w ++ [w]).length ≤ _; simp; omega, fun y hy => ?_, fun j => ?_⟩
  · rcases List.mem_append.1 hy with hy | hy
    · have := h4 y hy; omega
    · rw [List.mem_singleton.1 hy]; omega
  · show (onAll ((x.w ++ [w]).take j) x.stays).length ≤ _
    rw [List.take_append]
    by_cases hj : j ≤ x.w.length
    · rw [show j - x.w.length = 0 by omega, List.take_zero, List.append_nil]; have := h5 j; omega
    · obtain ⟨k, hk⟩ : ∃ k, j - x.w.length = k + 1 := ⟨j - x.w.length - 1, by omega⟩
      rw [hk]
      have e : onAll (x.w.take j ++ [w].take (k + 1)) x.stays = w.on (onAll (x.w.take j) x.stays) w.d.length := by
        unfold onAll; rw [List.foldl_append, List.take_succ_cons, List.take_nil]; rfl
      rw [e]
      have := on_le w (onAll (x.w.take j) x.stays) w.d.length
      have := h5 j
      omega
theorem Bs.write {n : Nat} {D : Dk} (h : Bs n D) (p : Pth) (w : Wr) : Bs (n + w.d.length + 3) (D.write p w) := by
  unfold Dk.write
  have h1 := h.make p
  exact (h1.mono (by omega)).put _ (((h1.f _).laid w).mono (by omega))
theorem Bs.lay {n : Nat} {D : Dk} (h : Bs n D) (p : Pth) (w : Wr) : Bs (n + w.d.length + 4) (D.lay p w).2 := by
  unfold Dk.lay
  have h1 := h.begin
  simp only
  split
  · exact h1.mono (by omega)
  · simp only; split
    · exact (h1.write p w).mono (by omega)
    · exact h1.mono (by omega)
theorem Bs.sync {n : Nat} {D : Dk} (h : Bs n D) (p : Pth) : Bs (n + 1) (D.sync p).2 := by
  unfold Dk.sync
  have h1 := h.begin
  simp only
  split
  · exact h1
  · simp only; split
    · exact h1.put _ (Fsb.flat (h1.f _).1)
    · exact h1
theorem Bs.rename {n : Nat} {D : Dk} (h : Bs n D) (a b : Pth) : Bs (n + 2) (D.rename a b).2 := by
  unfold Dk.rename
  have h1 := h.begin
  simp only
  split
  · exact h1.mono (by omega)
  · simp only; split
    · rename_i h2
      refine h1.change _ (fun i _ => ?_)
      have h3 : nameB a = true ∧ dirP a = dirP b := by
        have := h2.1
        unfold Dk.renE at this
        split at this
        · cases this
        · rename_i h4; split at this
          · cases this
          · rename_i h5; exact ⟨by cases hn : nameB a with
              | true => rfl
              | false => exact absurd (.inl hn) h4, by simpa using h5⟩
      unfold Chg.dir
      rw [if_neg (name_ne h3.1)]; exact h3.2.symm
    · exact h1.mono (by omega)
theorem Bs.remove {n : Nat} {D : Dk} (h : Bs n D) (p : Pth) : Bs (n + 2) (D.remove p).2 := by
  unfold Dk.remove
  have h1 := h.begin
  simp only
  split
  · exact h1.mono (by omega)
  · simp only; split
    · exact h1.change _ nofun
    · exact h1.mono (by omega)
theorem Bs.syncDir {n : Nat} {D : Dk} (h : Bs n D) (p : Pth) : Bs (n + 1) (D.syncDir p).2 := by
  unfold Dk.syncDir
  have h1 := h.begin
  simp only
  split
  · exact h1
  · simp only; split
    · obtain ⟨U, e1, e2, e3, e4⟩ := h1.un
      refine ⟨h1.an, asc_merge h1.ast _, Nat.le_trans (List.length_filter_le _ _) h1.lg, h1.op, h1.fl, h1.f, ⟨U, e1, e2, fun q hq => ?_, fun c hc => e4 c (List.mem_filter.1 hc).1⟩, fun c hc => h1.ld c (List.mem_filter.1 hc).1⟩
      have hq : (mget (merge D.begin.2.now D.begin.2.stays p) q).isSome = true := hq
      rw [mget_merge h1.an] at hq
      split at hq
      · exact e2 q hq
      · exact e3 q hq
    · exact h1
theorem Bs.stop {n : Nat} {D : Dk} (h : Bs n D) (k : Nat) : Bs n (D.stop k) := ⟨h.an, h.ast, h.lg, h.op, h.fl, h.f, h.un, h.ld⟩
theorem part_len (w : Wr) (b : List UInt8) (k : Nat) (hk : k < w.ways) : (w.part b k).length ≤ (w.on b w.d.length).length := by
  unfold Wr.part
  have h := on_len w b
  have h2 : ∀ m, m ≤ w.d.length → (w.on b m).length = (if w.b = true then b.length else 0) + m := fun m hm => by
    unfold Wr.on
    rw [List.length_append, List.length_take, Nat.min_eq_left hm]; split <;> simp
  unfold Wr.ways at hk
  split
  · rw [h2 _ (Nat.min_le_right _ _), h]; omega
  · rw [List.length_append, h2 _ (by omega), List.length_replicate, h]; omega
theorem wayW_len {n : Nat} : ∀ (ws : List Wr) (b : List UInt8) (k : Nat), (∀ j, (onAll (ws.take j) b).length ≤ n) → (wayW ws b k).length ≤ n
  | [], b, k, h => by simpa [onAll, wayW] using h 0
  | w :: ws, b, k, h => by
    have h1 : (w.on b w.d.length).length ≤ n := by simpa [onAll] using h 1
    unfold wayW
    split
    · simpa [onAll] using h 0
    · split
      · exact Nat.le_trans (part_len w b (k - 1) (by unfold Wr.ways at *; omega)) h1
      · exact wayW_len ws _ _ (fun j => by simpa [onAll] using h (j + 1))
theorem crashD_in {U : List Pth} {picks : List Int} {D : Dk} (hU : ∀ c ∈ D.log, ∀ i, c.f = some i → c.n ∈ U) : ∀ (L : List Pth) (s : Nms × Nat), Inn U s.1 → Asc s.1 → Inn U (L.foldl (crashD picks D) s).1 ∧ Asc (L.foldl (crashD picks D) s).1
  | [], s, h, ha => ⟨h, ha⟩
  | x :: L, s, h, ha => by
    rw [List.foldl_cons]
    refine crashD_in hU L _ ?_ ?_
    · rw [crashD_st]; exact inn_apl h (fun c hc => hU c (chgs_mem (List.mem_of_mem_take hc)).1)
    · rw [crashD_st]; exact asc_apl ha _
theorem crashF_in {n : Nat} (picks : List Int) : ∀ (L : Nms) (s : List Fdt × Nat), (∀ i, Fsb n (fget s.1 i)) → ∀ i, Fsb n (fget (L.foldl (crashF picks) s).1 i)
  | [], s, h => h
  | x :: L, s, h => by
    rw [List.foldl_cons]
    refine crashF_in picks L _ (fun i => ?_)
    unfold crashF
    simp only
    split
    · exact h i
    · have h9 := wayW_len (n := n) (fget s.1 x.2).w (fget s.1 x.2).stays (pickN picks s.2 (waysF (fget s.1 x.2).w)) (h x.2).2.2.2.2
      show Fsb n ((s.1.set x.2 _).getD i _)
      by_cases hi : x.2 < s.1.length
      · by_cases e : i = x.2
        · rw [e, List.getD_eq_getElem?_getD, List.getElem?_set_self hi]; exact Fsb.flat h9
        · rw [List.getD_eq_getElem?_getD, List.getElem?_set_ne (Ne.symm e), ← List.getD_eq_getElem?_getD]; exact h i
      · rw [List.set_eq_of_length_le (by omega)]; exact h i
theorem Bs.crash {n : Nat} {D : Dk} (h : Bs n D) (picks : List Int) : Bs n (D.crash picks) := by
  obtain ⟨U, h1, h2, h3, h4⟩ := h.un
  obtain ⟨c1, c2⟩ := crashD_in (picks := picks) h4 D.dirty (D.stays, 0) h3 h.ast
  exact ⟨c2, c2, Nat.zero_le _, h.op, by show (D.crashA picks).1.length ≤ n; unfold Dk.crashA; rw [crashF_len]; exact h.fl, crashF_in picks _ _ h.f, ⟨U, h1, c1, c1, nofun⟩, nofun⟩

end Go.Proofs.YtfbfjhppppoilaaDoor.SimQ
