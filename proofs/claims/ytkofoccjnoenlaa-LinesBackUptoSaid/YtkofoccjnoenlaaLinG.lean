/-
  Scripts as rows of single steps; the contract of LinesFirst.
-/
import Derived.Test.YtkofoccjnoenlaaLinF
namespace Go.Proofs.Ytkofoccjnoenlaa.LinG
open Go.Proofs.Ytkofoccjnoenlaa.E Go.RowKit Go.Proofs.Ytkofoccjnoenlaa.LinM Go.Proofs.Ytkofoccjnoenlaa.LinA Go.Proofs.Ytkofoccjnoenlaa.LinB Go.Proofs.Ytkofoccjnoenlaa.LinC Go.Proofs.Ytkofoccjnoenlaa.LinD Go.Proofs.Ytkofoccjnoenlaa.LinE Go.Proofs.Ytkofoccjnoenlaa.LinF
set_option linter.unusedVariables false
set_option linter.unusedSimpArgs false
set_option linter.unusedSectionVars false

def flat (es : List (Int × Int)) : List Int := es.flatMap (fun e => List.replicate e.2.toNat e.1)
theorem addE_concat (es : List (Int × Int)) (o n op : Int) : addE (es ++ [(o, n)]) op = if o = op then es ++ [(op, n + 1)] else es ++ [(o, n)] ++ [(op, 1)] := by
  have hl : (es ++ [(o, n)]).length - 1 = es.length := by simp
  by_cases h : o = op
  · rw [if_pos h]
    subst h
    unfold addE
    rw [if_pos (by rw [hl]; simp), hl]
    simp
  · rw [if_neg h]
    unfold addE
    rw [if_neg (by rw [hl]; simp [h])]
theorem addE_flat (es : List (Int × Int)) (op : Int) (hp : ∀ e ∈ es, 1 ≤ e.2) : flat (addE es op) = flat es ++ [op] := by
  rcases List.eq_nil_or_concat es with rfl | ⟨es', ⟨o, n⟩, rfl⟩
  · simp [addE, flat]
  · rw [List.concat_eq_append] at hp ⊢
    rw [addE_concat]
    have := hp (o, n) (by simp)
    split
    · rename_i h; subst h
      simp only [flat, List.flatMap_append, List.flatMap_cons, List.flatMap_nil, List.append_nil, List.append_assoc]
      rw [show (n + 1).toNat = n.toNat + 1 by simp only at this; omega, List.replicate_succ']
    · simp [flat]
theorem flat_runs (ops : List Int) : flat (runs ops) = ops := by
  have : ∀ (ops : List Int) (es : List (Int × Int)), (∀ e ∈ es, 1 ≤ e.2) → flat (ops.foldl addE es) = flat es ++ ops := by
    intro ops
    induction ops with
    | nil => intro es _; simp
    | cons o ops ih => intro es h; rw [List.foldl_cons, ih _ (addE_pos es o h), addE_flat es o h]; simp
  simpa [runs, flat] using this ops [] (by simp)
theorem flat_len (es : List (Int × Int)) (hp : ∀ e ∈ es, 1 ≤ e.2) : ((flat es).length : Int) = tot es := by
  induction es with
  | nil => rfl
  | cons e es ih =>
    have h1 := hp e (by simp)
    have h2 := ih (fun e he => hp e (by simp [he]))
    simp only [flat, tot, List.flatMap_cons, List.length_append, List.length_replicate, List.map_cons, List.sum_cons] at h2 ⊢
    omega
theorem flat_split (es : List (Int × Int)) (n : Nat) (hn : n < es.length) : flat es = flat (es.take n) ++ List.replicate es[n].2.toNat es[n].1 ++ flat (es.drop (n + 1)) := by
  have : es = es.take n ++ es[n] :: es.drop (n + 1) := by rw [← List.drop_eq_getElem_cons hn, List.take_append_drop]
  have h2 := congrArg flat this
  unfold flat at h2 ⊢
  rw [h2, List.flatMap_append, List.flatMap_cons, List.append_assoc]
theorem flat_get (es : List (Int × Int)) (hp : ∀ e ∈ es, 1 ≤ e.2) (n : Nat) (hn : n < es.length) (j : Nat) (hj : (j : Int) < es[n].2) (d r : List Int) (hd : (d.length : Int) = tot (es.take n) + j) (h : flat es = d ++ r) : ∃ r', r = es[n].1 :: r' := by
  have hl := flat_len (es.take n) (fun e he => hp e (List.mem_of_mem_take he))
  have h1 : (flat es)[d.length]? = some es[n].1 := by
    rw [flat_split es n hn, List.getElem?_append_left (by simp; omega), List.getElem?_append_right (by omega), List.getElem?_replicate, if_pos (by omega)]
  rw [h, List.getElem?_append_right (by omega), Nat.sub_self] at h1
  cases r with
  | nil => simp at h1
  | cons x r => simp only [List.getElem?_cons_zero, Option.some.injEq] at h1; exact ⟨r, by rw [h1]⟩
section
variable {α : Type} [DecidableEq α]
theorem W_eq_nil {x y : List α} (h : W x y = []) : x = [] ∧ y = [] := by
  cases x <;> cases y
  · exact ⟨rfl, rfl⟩
  · rw [W] at h; cases h
  · rw [W] at h; cases h
  · rw [W] at h; split at h
    · cases h
    · split at h <;> cases h
theorem W_eq0 {x y : List α} {r : List Int} (h : W x y = 0 :: r) : ∃ z xs ys, x = z :: xs ∧ y = z :: ys ∧ r = W xs ys := by
  cases x with
  | nil => cases y <;> rw [W] at h <;> simp at h
  | cons z xs =>
    cases y with
    | nil => rw [W] at h; simp at h
    | cons u ys =>
      rw [W] at h
      split at h
      · rename_i e; subst e; simp at h; exact ⟨z, xs, ys, rfl, rfl, h.symm⟩
      · split at h <;> simp at h
theorem W_eq1 {x y : List α} {r : List Int} (h : W x y = 1 :: r) : ∃ z xs, x = z :: xs ∧ (∀ u ys, y = u :: ys → z ≠ u) ∧ r = W xs y := by
  cases x with
  | nil => cases y <;> rw [W] at h <;> simp at h
  | cons z xs =>
    cases y with
    | nil => rw [W] at h; simp at h; exact ⟨z, xs, rfl, fun _ _ e => (by cases e), h.symm⟩
    | cons u ys =>
      rw [W] at h
      split at h
      · simp at h
      · rename_i hne
        split at h <;> simp at h
        exact ⟨z, xs, rfl, fun _ _ e => by cases e; exact hne, h.symm⟩
theorem W_eq2 {x y : List α} {r : List Int} (h : W x y = 2 :: r) : ∃ u ys, y = u :: ys ∧ (∀ z xs, x = z :: xs → z ≠ u ∧ lcs xs y ≠ lcs x y) ∧ r = W x ys := by
  cases x with
  | nil =>
    cases y with
    | nil => rw [W] at h; simp at h
    | cons u ys => rw [W] at h; simp at h; exact ⟨u, ys, rfl, fun _ _ e => (by cases e), h.symm⟩
  | cons z xs =>
    cases y with
    | nil => rw [W] at h; simp at h
    | cons u ys =>
      rw [W] at h
      split at h
      · simp at h
      · rename_i hne
        split at h <;> simp at h
        rename_i hl
        exact ⟨u, ys, rfl, fun _ _ e => by cases e; exact ⟨hne, hl⟩, h.symm⟩
theorem drop_cons {a : List α} {i : Nat} {z : α} {xs : List α} (h : a.drop i = z :: xs) : ∃ hi : i < a.length, a[i] = z ∧ a.drop (i + 1) = xs := by
  have hi : i < a.length := by
    apply Decidable.byContradiction; intro hc
    rw [List.drop_eq_nil_of_le (by omega)] at h; cases h
  rw [List.drop_eq_getElem_cons hi] at h
  simp only [List.cons.injEq] at h
  exact ⟨hi, h.1, h.2⟩
theorem Wd0 {a b : List α} {i k : Nat} {r : List Int} (h : W (a.drop i) (b.drop k) = 0 :: r) : i < a.length ∧ k < b.length ∧ r = W (a.drop (i + 1)) (b.drop (k + 1)) := by
  obtain ⟨z, xs, ys, h1, h2, h3⟩ := W_eq0 h
  obtain ⟨g1, _, g2⟩ := drop_cons h1
  obtain ⟨g3, _, g4⟩ := drop_cons h2
  exact ⟨g1, g3, by rw [h3, g2, g4]⟩
theorem Wd1 {a b : List α} {i k : Nat} {r : List Int} (h : W (a.drop i) (b.drop k) = 1 :: r) : i < a.length ∧ r = W (a.drop (i + 1)) (b.drop k) := by
  obtain ⟨z, xs, h1, h2, h3⟩ := W_eq1 h
  obtain ⟨g1, e1, g2⟩ := drop_cons h1
  exact ⟨g1, by rw [h3, g2]⟩
theorem Wd2 {a b : List α} {i k : Nat} {r : List Int} (h : W (a.drop i) (b.drop k) = 2 :: r) : k < b.length ∧ (i < a.length → lcs (a.drop (i + 1)) (b.drop k) ≠ lcs (a.drop i) (b.drop k)) ∧ r = W (a.drop i) (b.drop (k + 1)) := by
  obtain ⟨u, ys, h1, h2, h3⟩ := W_eq2 h
  obtain ⟨g1, e1, g2⟩ := drop_cons h1
  refine ⟨g1, fun hi => (h2 a[i] (a.drop (i + 1)) (List.drop_eq_getElem_cons hi)).2, by rw [h3, g2]⟩
theorem Wne {a b : List α} {i k : Nat} {o : Int} {r : List Int} (h : W (a.drop i) (b.drop k) = o :: r) (ho : o ≠ 0) (hi : i < a.length) (hk : k < b.length) : a[i] ≠ b[k] := by
  intro e
  rw [List.drop_eq_getElem_cons hi, List.drop_eq_getElem_cons hk, e, W_same] at h
  simp only [List.cons.injEq] at h
  exact ho h.1.symm
theorem Wall {a b : List α} {i k : Nat} {d : List Int} (h : W a b = d ++ W (a.drop i) (b.drop k)) : lcs a b = d.count 0 + lcs (a.drop i) (b.drop k) := by
  rw [← count_W _ a b (Nat.le_refl _), h, List.count_append, count_W _ _ _ (Nat.le_refl _)]
theorem script_ops (a b : List α) : ∀ e ∈ script a b, e.1 = 0 ∨ e.1 = 1 ∨ e.1 = 2 := by
  intro e he
  have hm : e.1 ∈ flat (script a b) := by
    refine List.mem_flatMap.2 ⟨e, he, ?_⟩
    have := runs_pos _ e he
    rw [List.mem_replicate]; exact ⟨by omega, rfl⟩
  unfold script at hm
  rw [flat_runs] at hm
  exact (W_mem _ a b (Nat.le_refl _)).2 _ hm
end

set_option maxHeartbeats 2000000 in
theorem linesFirst_ct (va vb : Value) (a b : List (List UInt8)) (w0 : World) (H0 : Heap)
    (ha : RdT H0 fS 1 va a) (hb : RdT H0 fS 1 vb b) :
    Ct Try.prog w0 6 #[va, vb] H0 (fun r H2 => r = .bool true ∧ Nw H0 H2) := by
  refine Ct.enter (args := [va, vb]) Try.func6 rfl rfl rfl ?_
  intro Q0 hret
  have hal := ha.len
  have hbl := hb.len
  refine CW.seq (fun K1 hK1 hE1 => ?_)
  refine CW.region ?_
  refine LR.v (Y.assign rfl rfl) (Wd.u rfl) rfl rfl ?_
  refine LR.nil ?_
  refine hK1 _ _ ?_
  refine CW.seq (fun K2 hK2 hE2 => ?_)
  refine CW.seq (fun K3 hK3 hE3 => ?_)
  refine CW.region ?_
  -- call selvage/selvagelaw12.known
  refine LR.call rfl Try.call10 rfl (Wd.u rfl) rfl rfl (known_ct w0 H0) (fun v13 H13 r13 => ?_)
  obtain ⟨rfl, hs⟩ := r13
  replace ha := ha.nw hs
  replace hb := hb.nw hs
  refine LR.v (Y.not rfl rfl) (Wd.u rfl) rfl rfl ?_
  refine LR.nil ?_
  refine hK3 _ _ ?_
  refine CW.cond_f rfl ?_
  refine CW.skip ?_
  refine hK2 _ _ ?_
  refine CW.seq (fun K4 hK4 hE4 => ?_)
  refine CW.seq (fun K5 hK5 hE5 => ?_)
  refine CW.region ?_
  refine LR.v (Y.move rfl rfl) (Wd.u rfl) rfl rfl ?_
  refine LR.v (Y.len ha rfl Try.runUnderlying22 rfl) (Wd.u rfl) rfl rfl ?_
  refine LR.v (Y.gtr rfl rfl rfl) (Wd.u rfl) rfl rfl ?_
  refine LR.v (Y.move rfl rfl) (Wd.u rfl) rfl rfl ?_
  refine LR.splitp (d := 18) rfl (fun g18 => ?_) (fun g18 => ?_)
  ·
    refine LR.gs rfl rfl rfl rfl rfl rfl ?_
    refine LR.gs rfl rfl rfl rfl rfl rfl ?_
    refine LR.gs rfl rfl rfl rfl rfl rfl ?_
    refine LR.v (Y.pick_t rfl rfl rfl) (Wd.u rfl) rfl rfl ?_
    refine LR.nil ?_
    refine hK5 _ _ ?_
    refine CW.cond_t rfl ?_
    refine CW.seq (fun K6 hK6 hE6 => ?_)
    refine CW.region ?_
    refine LR.v (Y.assign rfl rfl) (Wd.u rfl) rfl rfl ?_
    refine LR.nil ?_
    refine hK6 _ _ ?_
    refine CW.ret (hE4 .ret nofun _ _ (hret .ret (.inr rfl) _ _ _ (res1 rfl rfl) ?_))
    exact ⟨rfl, hs⟩
  ·
    refine LR.v (Y.move rfl rfl) (Wd.g rfl rfl rfl) rfl rfl ?_
    refine LR.v (Y.len hb rfl Try.runUnderlying22 rfl) (Wd.g rfl rfl rfl) rfl rfl ?_
    refine LR.v (Y.gtr rfl rfl rfl) (Wd.g rfl rfl rfl) rfl rfl ?_
    refine LR.v (Y.pick_f rfl rfl rfl) (Wd.u rfl) rfl rfl ?_
    refine LR.nil ?_
    refine hK5 _ _ ?_
    refine CW.condp rfl (fun c22 => ?_) (fun c22 => ?_)
    ·
      refine CW.seq (fun K7 hK7 hE7 => ?_)
      refine CW.region ?_
      refine LR.v (Y.assign rfl rfl) (Wd.u rfl) rfl rfl ?_
      refine LR.nil ?_
      refine hK7 _ _ ?_
      refine CW.ret (hE4 .ret nofun _ _ (hret .ret (.inr rfl) _ _ _ (res1 rfl rfl) ?_))
      exact ⟨rfl, hs⟩
    ·
      refine CW.skip ?_
      refine hK4 _ _ ?_
      refine CW.seq (fun K8 hK8 hE8 => ?_)
      refine CW.region ?_
      refine LR.v (Y.move rfl rfl) (Wd.u rfl) rfl rfl ?_
      refine LR.v (Y.move rfl rfl) (Wd.u rfl) rfl rfl ?_
      -- call selvage/lines.Diff
      refine LR.call rfl Try.call12 rfl (Wd.u rfl) rfl rfl (diff_ct _ _ a b w0 H13 ha hb) (fun v26 H26 r26 => ?_)
      obtain ⟨v, rfl, hoe, hs26⟩ := r26
      rw [if_neg (by omega)] at hoe ⊢
      replace ha := ha.nw hs26
      replace hb := hb.nw hs26
      replace hs := hs.tr hs26
      have hoe := hoe.rd.any
      have hWl := W_len a b
      have hp := runs_pos (W a b)
      have hrt : tot (script a b) = (W a b).length := runs_tot (W a b)
      have htp := tot_pos (script a b) hp
      refine LR.v (Y.move rfl rfl) (Wd.u rfl) rfl rfl ?_
      refine LR.v (Y.extract rfl rfl rfl) (Wd.u rfl) rfl rfl ?_
      refine LR.v (Y.extract rfl rfl rfl) (Wd.u rfl) rfl rfl ?_
      refine LR.v (Y.assign rfl rfl) (Wd.u rfl) rfl rfl ?_
      refine LR.v (Y.assign rfl rfl) (Wd.u rfl) rfl rfl ?_
      refine LR.nil ?_
      refine hK8 _ _ ?_
      refine CW.seq (fun K9 hK9 hE9 => ?_)
      refine CW.seq (fun K10 hK10 hE10 => ?_)
      refine CW.region ?_
      refine LR.v (Y.move rfl rfl) (Wd.u rfl) rfl rfl ?_
      refine LR.v ((Y.neq rfl rfl rfl).isF (by omega)) (Wd.u rfl) rfl rfl ?_
      refine LR.nil ?_
      refine hK10 _ _ ?_
      refine CW.cond_f rfl ?_
      refine CW.skip ?_
      refine hK9 _ _ ?_
      refine CW.seq (fun K11 hK11 hE11 => ?_)
      refine CW.region ?_
      refine LR.v (Y.move rfl rfl) (Wd.u rfl) rfl rfl ?_
      -- call selvage/selvagelaw12.kept
      refine LR.call rfl Try.call17 rfl (Wd.u rfl) rfl rfl (kept_ct _ _ w0 H26 hoe hp (by omega)) (fun v32 H32 r32 => ?_)
      obtain ⟨rfl, rfl⟩ := r32
      rw [keptE_script]
      refine LR.v (Y.assign rfl rfl) (Wd.u rfl) rfl rfl ?_
      refine LR.nil ?_
      refine hK11 _ _ ?_
      refine CW.seq (fun K12 hK12 hE12 => ?_)
      refine CW.region ?_
      refine LR.v (Y.assign rfl rfl) (Wd.u rfl) rfl rfl ?_
      refine LR.v (Y.assign rfl rfl) (Wd.u rfl) rfl rfl ?_
      refine LR.v (Y.assign rfl rfl) (Wd.u rfl) rfl rfl ?_
      refine LR.nil ?_
      refine hK12 _ _ ?_
      refine CW.seq (fun K13 hK13 hE13 => ?_)
      refine CW.seq (fun K14 hK14 hE14 => ?_)
      refine CW.region ?_
      refine LR.v (Y.assign rfl rfl) (Wd.u rfl) rfl rfl ?_
      refine LR.nil ?_
      refine hK14 _ _ ?_
      refine CW.block (fun K15 hK15 hX15 hE15 => ?_)
      refine CW.loop (fun (s : (Nat) × (Nat) × (Nat) × (Nat) × (List Int)) => match s with | (n, i, k, had, done) => [(0, va), (1, vb), (5, v), (7, .int .i64 (lcs a b)), (8, .int .i64 i), (9, .int .i64 k), (10, .int .i64 had), (11, .int .i64 n)])
        (fun (s : (Nat) × (Nat) × (Nat) × (Nat) × (List Int)) (H : Heap) => match s with | (n, i, k, had, done) => Nw H0 H ∧ Nw H32 H ∧ n ≤ (script a b).length ∧ i ≤ a.length ∧ k ≤ b.length ∧ W a b = done ++ W (a.drop i) (b.drop k) ∧ had = done.count 0 ∧ (done.length : Int) = tot ((script a b).take n))
        (fun (s : (Nat) × (Nat) × (Nat) × (Nat) × (List Int)) => match s with | (n, i, k, had, done) => (script a b).length - n) (0, 0, 0, 0, []) ⟨rfl, rfl, rfl, rfl, rfl, rfl, rfl, rfl, trivial⟩ ?_ ?_
      ·
        exact ⟨hs, Nw.refl _, by omega, by omega, by omega, by simp, rfl, by simp [tot]⟩
      rintro ⟨n, i, k, had, done⟩ H1 hI1 K16 hN16 hE16
      obtain ⟨hs, hN, hn, hi, hk, hW, hhad, hd⟩ := hI1
      have ha2 := ha.nw hN
      have hb2 := hb.nw hN
      have hoe2 := hoe.nw hN
      have hall := Wall hW
      have hcd := List.count_le_length (a := (0 : Int)) (l := done)
      have hWl := congrArg List.length hW
      rw [List.length_append] at hWl
      -- WARN live slots not in fl: [65, 66, 67, 68, 71, 72, 73, 74, 75, 76, 77, 78, 79, 82, 83, 84, 85, 86, 87, 88, 89, 90, 91, 92, 93, 94, 95, 108, 109, 110, 111, 112, 113, 114, 115, 116, 117, 118, 119]
      refine CW.seq (fun K17 hK17 hE17 => ?_)
      refine CW.seq (fun K18 hK18 hE18 => ?_)
      refine CW.region ?_
      refine LR.v (Y.move rfl rfl) (Wd.u rfl) rfl rfl ?_
      refine LR.v (Y.move rfl rfl) (Wd.u rfl) rfl rfl ?_
      refine LR.v (Y.len hoe2 rfl Try.runUnderlying25 rfl) (Wd.u rfl) rfl rfl ?_
      refine LR.v (Y.lss rfl rfl rfl) (Wd.u rfl) rfl rfl ?_
      refine LR.nil ?_
      refine hK18 _ _ ?_
      refine CW.condp rfl (fun c36 => ?_) (fun c36 => ?_)
      ·
        have htk := tot_take (script a b) n (by omega)
        have hpn := hp (script a b)[n] (List.getElem_mem _)
        have htl := tot_take_le (script a b) hp (n + 1)
        refine CW.skip ?_
        refine hK17 _ _ ?_
        refine CW.seq (fun K19 hK19 hE19 => ?_)
        refine CW.block (fun K20 hK20 hX20 hE20 => ?_)
        refine CW.seq (fun K21 hK21 hE21 => ?_)
        refine CW.region ?_
        refine LR.v (Y.assign rfl rfl) (Wd.u rfl) rfl rfl ?_
        refine LR.nil ?_
        refine hK21 _ _ ?_
        refine CW.block (fun K22 hK22 hX22 hE22 => ?_)
        refine CW.loop (fun (s : (Nat) × (Nat) × (Nat) × (Nat) × (List Int)) => match s with | (j, i, k, had, done) => [(0, va), (1, vb), (5, v), (7, .int .i64 (lcs a b)), (8, .int .i64 i), (9, .int .i64 k), (10, .int .i64 had), (11, .int .i64 n), (12, .int .i64 j)])
          (fun (s : (Nat) × (Nat) × (Nat) × (Nat) × (List Int)) (H : Heap) => match s with | (j, i, k, had, done) => Nw H0 H ∧ Nw H32 H ∧ n ≤ (script a b).length ∧ i ≤ a.length ∧ k ≤ b.length ∧ W a b = done ++ W (a.drop i) (b.drop k) ∧ had = done.count 0 ∧ (done.length : Int) = tot ((script a b).take n) + j ∧ (j : Int) ≤ (script a b)[n].2)
          (fun (s : (Nat) × (Nat) × (Nat) × (Nat) × (List Int)) => match s with | (j, i, k, had, done) => ((script a b)[n].2 - j).toNat) (0, i, k, had, done) ⟨rfl, rfl, rfl, rfl, rfl, rfl, rfl, rfl, rfl, trivial⟩ ?_ ?_
        ·
          exact ⟨hs, hN, hn, hi, hk, hW, hhad, by omega, by omega⟩
        rintro ⟨j, i, k, had, done⟩ H2 hI2 K23 hN23 hE23
        obtain ⟨hs, hN, hn, hi, hk, hW, hhad, hd, hj⟩ := hI2
        have ha2 := ha.nw hN
        have hb2 := hb.nw hN
        have hoe2 := hoe.nw hN
        have hall := Wall hW
        have hcd := List.count_le_length (a := (0 : Int)) (l := done)
        have hWl := congrArg List.length hW
        rw [List.length_append] at hWl
        -- WARN live slots not in fl: [65, 66, 67, 68, 71, 72, 73, 74, 75, 76, 77, 78, 79, 82, 83, 84, 85, 86, 87, 88, 89, 90, 91, 92, 93, 94, 95, 108, 109, 110, 111, 112, 113, 114, 115, 116, 117, 118, 119]
        refine CW.seq (fun K24 hK24 hE24 => ?_)
        refine CW.seq (fun K25 hK25 hE25 => ?_)
        refine CW.region ?_
        refine LR.v (Y.move rfl rfl) (Wd.u rfl) rfl rfl ?_
        refine LR.v (Y.move rfl rfl) (Wd.u rfl) rfl rfl ?_
        refine LR.v (Y.move rfl rfl) (Wd.u rfl) rfl rfl ?_
        refine LR.e (g := fun ad => .pointer (some ad)) (Y.indexAddr hoe2 (n) rfl Try.runUnderlying25 Try.sizeOf36 rfl rfl (by first | rfl | omega) (by omega)) (Wd.u rfl) rfl rfl (fun ad42 pt42 => ?_)
        refine LR.v (Y.fieldAddr pt42 rfl Try.runUnderlying36 rfl rfl Try.sizeOf3 (by decide) rfl) (Wd.u rfl) rfl rfl ?_
        refine LR.v (Y.load1 (pt42.drop 1) rfl Try.isAgg3 rfl) (Wd.u rfl) rfl rfl ?_
        refine LR.v (Y.lss rfl rfl rfl) (Wd.u rfl) rfl rfl ?_
        refine LR.nil ?_
        refine hK25 _ _ ?_
        refine CW.condp rfl (fun c45 => ?_) (fun c45 => ?_)
        ·
          obtain ⟨r, hr⟩ := flat_get (script a b) hp n (by omega) j (by omega) done _ hd (by unfold script; rw [flat_runs]; exact hW)
          have hW2 := hW
          rw [hr] at hW2
          have hWl2 := congrArg List.length hW2
          simp only [List.length_append, List.length_cons] at hWl2
          have hop := script_ops a b (script a b)[n] (List.getElem_mem _)
          refine CW.skip ?_
          refine hK24 _ _ ?_
          refine CW.seq (fun K26 hK26 hE26 => ?_)
          refine CW.block (fun K27 hK27 hX27 hE27 => ?_)
          refine CW.seq (fun K28 hK28 hE28 => ?_)
          refine CW.seq (fun K29 hK29 hE29 => ?_)
          refine CW.region ?_
          refine LR.v (Y.move rfl rfl) (Wd.u rfl) rfl rfl ?_
          refine LR.v (Y.move rfl rfl) (Wd.u rfl) rfl rfl ?_
          refine LR.e (g := fun ad => .pointer (some ad)) (Y.indexAddr hoe2 (n) rfl Try.runUnderlying25 Try.sizeOf36 rfl rfl (by first | rfl | omega) (by omega)) (Wd.u rfl) rfl rfl (fun ad50 pt50 => ?_)
          refine LR.v (Y.fieldAddr pt50 rfl Try.runUnderlying36 rfl rfl Try.sizeOf3 (by decide) rfl) (Wd.u rfl) rfl rfl ?_
          refine LR.v (Y.load1 (pt50.drop 0) rfl Try.isAgg3 rfl) (Wd.u rfl) rfl rfl ?_
          refine LR.v (Y.eql rfl rfl rfl) (Wd.u rfl) rfl rfl ?_
          refine LR.nil ?_
          refine hK29 _ _ ?_
          refine CW.condp rfl (fun c53 => ?_) (fun c53 => ?_)
          ·
            rw [c53] at hr hW2
            obtain ⟨g1, g2, g3⟩ := Wd0 hr
            refine CW.seq (fun K30 hK30 hE30 => ?_)
            refine CW.region ?_
            refine LR.v (Y.move rfl rfl) (Wd.u rfl) rfl rfl ?_
            refine LR.v (Y.addi rfl rfl rfl (by omega)) (Wd.u rfl) rfl rfl ?_
            refine LR.v (Y.assign rfl rfl) (Wd.u rfl) rfl rfl ?_
            refine LR.nil ?_
            refine hK30 _ _ ?_
            refine CW.seq (fun K31 hK31 hE31 => ?_)
            refine CW.region ?_
            refine LR.v (Y.move rfl rfl) (Wd.u rfl) rfl rfl ?_
            refine LR.v (Y.addi rfl rfl rfl (by omega)) (Wd.u rfl) rfl rfl ?_
            refine LR.v (Y.assign rfl rfl) (Wd.u rfl) rfl rfl ?_
            refine LR.nil ?_
            refine hK31 _ _ ?_
            refine CW.seq (fun K32 hK32 hE32 => ?_)
            refine CW.region ?_
            refine LR.v (Y.move rfl rfl) (Wd.u rfl) rfl rfl ?_
            refine LR.v (Y.addi rfl rfl rfl (by omega)) (Wd.u rfl) rfl rfl ?_
            refine LR.v (Y.assign rfl rfl) (Wd.u rfl) rfl rfl ?_
            refine LR.nil ?_
            refine hK32 _ _ ?_
            refine CW.exit (hE28 (.exit 3) nofun _ _ (hX27 _ _ ?_))
            refine hK26 _ _ ?_
            refine CW.region ?_
            refine LR.v (Y.move rfl rfl) (Wd.u rfl) rfl rfl ?_
            refine LR.v (Y.addi rfl rfl rfl (by omega)) (Wd.u rfl) rfl rfl ?_
            refine LR.v (Y.assign rfl rfl) (Wd.u rfl) rfl rfl ?_
            refine LR.nil ?_
            refine QN.sub (hN23 (j + 1, i + 1, k + 1, had + 1, done ++ [0]) _ ?_ ?_) ⟨rfl, rfl, rfl, (iv (by omega)), (iv (by omega)), (iv (by omega)), (iv (by omega)), (iv (by omega)), (iv (by omega)), trivial⟩
            · exact ⟨hs, hN, hn, by omega, by omega, by rw [hW2, g3]; simp, by rw [hhad, List.count_append]; simp, by simp; omega, by omega⟩
            · show ((script a b)[n].2 - ((j + 1 : Nat) : Int)).toNat < ((script a b)[n].2 - (j : Int)).toNat; omega
          ·
            refine CW.skip ?_
            refine hK28 _ _ ?_
            refine CW.seq (fun K33 hK33 hE33 => ?_)
            refine CW.seq (fun K34 hK34 hE34 => ?_)
            refine CW.region_any (fun Hq => Nw H2 Hq) rfl ?_
            have hqs := Nw.refl H2
            refine LH.take 0 rfl (by kernel_rfl) (by kernel_rfl) (by kernel_rfl) (fun Hq hq => Y.move rfl rfl) (Wd.u rfl) rfl rfl hqs ?_
            refine LH.take 1 rfl (by kernel_rfl) (by kernel_rfl) (by kernel_rfl) (fun Hq hq => Y.move rfl rfl) (Wd.u rfl) rfl rfl hqs ?_
            refine LH.take 2 rfl (by kernel_rfl) (by kernel_rfl) (by kernel_rfl) (fun Hq hq => Y.len (ha2.nw hq) rfl Try.runUnderlying22 rfl) (Wd.u rfl) rfl rfl hqs ?_
            refine LH.take 3 rfl (by kernel_rfl) (by kernel_rfl) (by kernel_rfl) (fun Hq hq => Y.lss rfl rfl rfl) (Wd.u rfl) rfl rfl hqs ?_
            refine LH.take 4 rfl (by kernel_rfl) (by kernel_rfl) (by kernel_rfl) (fun Hq hq => Y.move rfl rfl) (Wd.u rfl) rfl rfl hqs ?_
            refine LH.splitp (d := 64) rfl (fun g64 => ?_) (fun g64 => ?_)
            ·
              refine LH.take 5 rfl (by kernel_rfl) (by kernel_rfl) (by kernel_rfl) (fun Hq hq => Y.move rfl rfl) (Wd.g rfl rfl rfl) rfl rfl hqs ?_
              refine LH.take 6 rfl (by kernel_rfl) (by kernel_rfl) (by kernel_rfl) (fun Hq hq => Y.move rfl rfl) (Wd.g rfl rfl rfl) rfl rfl hqs ?_
              refine LH.take 7 rfl (by kernel_rfl) (by kernel_rfl) (by kernel_rfl) (fun Hq hq => Y.len (hb2.nw hq) rfl Try.runUnderlying22 rfl) (Wd.g rfl rfl rfl) rfl rfl hqs ?_
              refine LH.take 8 rfl (by kernel_rfl) (by kernel_rfl) (by kernel_rfl) (fun Hq hq => Y.lss rfl rfl rfl) (Wd.g rfl rfl rfl) rfl rfl hqs ?_
              refine LH.take 9 rfl (by kernel_rfl) (by kernel_rfl) (by kernel_rfl) (fun Hq hq => Y.pick_t rfl rfl rfl) (Wd.u rfl) rfl rfl hqs ?_
              refine LH.take 10 rfl (by kernel_rfl) (by kernel_rfl) (by kernel_rfl) (fun Hq hq => Y.move rfl rfl) (Wd.u rfl) rfl rfl hqs ?_
              refine LH.splitp (d := 70) rfl (fun g70 => ?_) (fun g70 => ?_)
              ·
                refine LH.take 11 rfl (by kernel_rfl) (by kernel_rfl) (by kernel_rfl) (fun Hq hq => Y.move rfl rfl) (Wd.g rfl rfl rfl) rfl rfl hqs ?_
                refine LH.take 12 rfl (by kernel_rfl) (by kernel_rfl) (by kernel_rfl) (fun Hq hq => Y.move rfl rfl) (Wd.g rfl rfl rfl) rfl rfl hqs ?_
                refine LH.e (g := fun ad => .pointer (some ad)) 13 rfl (by kernel_rfl) (by kernel_rfl) (by kernel_rfl) (Y.indexAddr ha2 (i) rfl Try.runUnderlying22 Try.sizeOf9 rfl rfl (by first | rfl | omega) (by omega)) (Wd.g rfl rfl rfl) rfl rfl hqs (fun ad73 pt73 => ?_)
                refine LH.take 14 rfl (by kernel_rfl) (by kernel_rfl) (by kernel_rfl) (fun Hq hq => Y.load1 (pt73.nw hq) rfl Try.isAgg9 rfl) (Wd.g rfl rfl rfl) rfl rfl hqs ?_
                refine LH.take 15 rfl (by kernel_rfl) (by kernel_rfl) (by kernel_rfl) (fun Hq hq => Y.move rfl rfl) (Wd.g rfl rfl rfl) rfl rfl hqs ?_
                refine LH.take 16 rfl (by kernel_rfl) (by kernel_rfl) (by kernel_rfl) (fun Hq hq => Y.move rfl rfl) (Wd.g rfl rfl rfl) rfl rfl hqs ?_
                refine LH.e (g := fun ad => .pointer (some ad)) 17 rfl (by kernel_rfl) (by kernel_rfl) (by kernel_rfl) (Y.indexAddr hb2 (k) rfl Try.runUnderlying22 Try.sizeOf9 rfl rfl (by first | rfl | omega) (by omega)) (Wd.g rfl rfl rfl) rfl rfl hqs (fun ad77 pt77 => ?_)
                refine LH.take 18 rfl (by kernel_rfl) (by kernel_rfl) (by kernel_rfl) (fun Hq hq => Y.load1 (pt77.nw hq) rfl Try.isAgg9 rfl) (Wd.g rfl rfl rfl) rfl rfl hqs ?_
                refine LH.take 19 rfl (by kernel_rfl) (by kernel_rfl) (by kernel_rfl) (fun Hq hq => (Y.seql rfl rfl rfl).isF (Wne hr c53 (by omega) (by omega))) (Wd.g rfl rfl rfl) rfl rfl hqs ?_
                refine LH.take 20 rfl (by kernel_rfl) (by kernel_rfl) (by kernel_rfl) (fun Hq hq => Y.pick_t rfl rfl rfl) (Wd.u rfl) rfl rfl hqs ?_
                refine LH.take 21 rfl (by kernel_rfl) (by kernel_rfl) (by kernel_rfl) (fun Hq hq => Y.move rfl rfl) (Wd.u rfl) rfl rfl hqs ?_
                refine LH.gs 22 rfl (by kernel_rfl) (by kernel_rfl) (by kernel_rfl) rfl rfl rfl rfl rfl rfl hqs ?_
                refine LH.gs 23 rfl (by kernel_rfl) (by kernel_rfl) (by kernel_rfl) rfl rfl rfl rfl rfl rfl hqs ?_
                refine LH.gs 24 rfl (by kernel_rfl) (by kernel_rfl) (by kernel_rfl) rfl rfl rfl rfl rfl rfl hqs ?_
                refine LH.gs 25 rfl (by kernel_rfl) (by kernel_rfl) (by kernel_rfl) rfl rfl rfl rfl rfl rfl hqs ?_
                refine LH.gs 26 rfl (by kernel_rfl) (by kernel_rfl) (by kernel_rfl) rfl rfl rfl rfl rfl rfl hqs ?_
                refine LH.gs 27 rfl (by kernel_rfl) (by kernel_rfl) (by kernel_rfl) rfl rfl rfl rfl rfl rfl hqs ?_
                refine LH.gs 28 rfl (by kernel_rfl) (by kernel_rfl) (by kernel_rfl) rfl rfl rfl rfl rfl rfl hqs ?_
                refine LH.gs 29 rfl (by kernel_rfl) (by kernel_rfl) (by kernel_rfl) rfl rfl rfl rfl rfl rfl hqs ?_
                refine LH.gs 30 rfl (by kernel_rfl) (by kernel_rfl) (by kernel_rfl) rfl rfl rfl rfl rfl rfl hqs ?_
                refine LH.gs 31 rfl (by kernel_rfl) (by kernel_rfl) (by kernel_rfl) rfl rfl rfl rfl rfl rfl hqs ?_
                refine LH.gs 32 rfl (by kernel_rfl) (by kernel_rfl) (by kernel_rfl) rfl rfl rfl rfl rfl rfl hqs ?_
                refine LH.gs 33 rfl (by kernel_rfl) (by kernel_rfl) (by kernel_rfl) rfl rfl rfl rfl rfl rfl hqs ?_
                refine LH.gs 34 rfl (by kernel_rfl) (by kernel_rfl) (by kernel_rfl) rfl rfl rfl rfl rfl rfl hqs ?_
                refine LH.gs 35 rfl (by kernel_rfl) (by kernel_rfl) (by kernel_rfl) rfl rfl rfl rfl rfl rfl hqs ?_
                refine LH.take 36 rfl (by kernel_rfl) (by kernel_rfl) (by kernel_rfl) (fun Hq hq => Y.pick_f rfl rfl rfl) (Wd.u rfl) rfl rfl hqs ?_
                refine LH.done (by kernel_rfl) ?_
                have hqe := hqs
                refine hK34 _ _ ?_
                refine CW.cond_f rfl ?_
                refine CW.skip ?_
                refine hK33 _ _ ?_
                refine CW.seq (fun K35 hK35 hE35 => ?_)
                refine CW.region ?_
                refine LR.v (Y.move rfl rfl) (Wd.u rfl) rfl rfl ?_
                refine LR.v (Y.move rfl rfl) (Wd.u rfl) rfl rfl ?_
                refine LR.e (g := fun ad => .pointer (some ad)) (Y.indexAddr hoe2 (n) rfl Try.runUnderlying25 Try.sizeOf36 rfl rfl (by first | rfl | omega) (by omega)) (Wd.u rfl) rfl rfl (fun ad99 pt99 => ?_)
                refine LR.v (Y.fieldAddr pt99 rfl Try.runUnderlying36 rfl rfl Try.sizeOf3 (by decide) rfl) (Wd.u rfl) rfl rfl ?_
                refine LR.v (Y.load1 (pt99.drop 0) rfl Try.isAgg3 rfl) (Wd.u rfl) rfl rfl ?_
                refine LR.v (Y.eql rfl rfl rfl) (Wd.u rfl) rfl rfl ?_
                refine LR.nil ?_
                refine hK35 _ _ ?_
                refine CW.condp rfl (fun c102 => ?_) (fun c102 => ?_)
                ·
                  rw [c102] at hr hW2
                  obtain ⟨g1, g2, g3⟩ := Wd2 hr
                  refine CW.seq (fun K36 hK36 hE36 => ?_)
                  refine CW.seq (fun K37 hK37 hE37 => ?_)
                  refine CW.region_any (fun Hq => Nw H2 Hq) rfl ?_
                  have hqs := Nw.refl H2
                  refine LH.take 0 rfl (by kernel_rfl) (by kernel_rfl) (by kernel_rfl) (fun Hq hq => Y.move rfl rfl) (Wd.u rfl) rfl rfl hqs ?_
                  refine LH.take 1 rfl (by kernel_rfl) (by kernel_rfl) (by kernel_rfl) (fun Hq hq => Y.move rfl rfl) (Wd.u rfl) rfl rfl hqs ?_
                  refine LH.take 2 rfl (by kernel_rfl) (by kernel_rfl) (by kernel_rfl) (fun Hq hq => Y.len (ha2.nw hq) rfl Try.runUnderlying22 rfl) (Wd.u rfl) rfl rfl hqs ?_
                  refine LH.take 3 rfl (by kernel_rfl) (by kernel_rfl) (by kernel_rfl) (fun Hq hq => Y.lss rfl rfl rfl) (Wd.u rfl) rfl rfl hqs ?_
                  refine LH.take 4 rfl (by kernel_rfl) (by kernel_rfl) (by kernel_rfl) (fun Hq hq => Y.move rfl rfl) (Wd.u rfl) rfl rfl hqs ?_
                  refine LH.splitp (d := 107) rfl (fun g107 => ?_) (fun g107 => ?_)
                  ·
                    refine LH.take 5 rfl (by kernel_rfl) (by kernel_rfl) (by kernel_rfl) (fun Hq hq => Y.move rfl rfl) (Wd.g rfl rfl rfl) rfl rfl hqs ?_
                    refine LH.take 6 rfl (by kernel_rfl) (by kernel_rfl) (by kernel_rfl) (fun Hq hq => Y.move rfl rfl) (Wd.g rfl rfl rfl) rfl rfl hqs ?_
                    refine LH.take 7 rfl (by kernel_rfl) (by kernel_rfl) (by kernel_rfl) (fun Hq hq => Y.move rfl rfl) (Wd.g rfl rfl rfl) rfl rfl hqs ?_
                    refine LH.take 8 rfl (by kernel_rfl) (by kernel_rfl) (by kernel_rfl) (fun Hq hq => Y.addi rfl rfl rfl (by omega)) (Wd.g rfl rfl rfl) rfl rfl hqs ?_
                    refine LH.e (g := fun v => v) 9 rfl (by kernel_rfl) (by kernel_rfl) (by kernel_rfl) (Y.slice ha2 (i + 1) (_) rfl Try.runUnderlying22 Try.sizeOf9 rfl (.inr ⟨_, _, _, rfl, rfl, by first | rfl | omega⟩) (.inl ⟨rfl, rfl⟩) (by omega) (by omega)) (Wd.g rfl rfl rfl) rfl rfl hqs (fun v112 rd112 => ?_)
                    refine LH.take 10 rfl (by kernel_rfl) (by kernel_rfl) (by kernel_rfl) (fun Hq hq => Y.move rfl rfl) (Wd.g rfl rfl rfl) rfl rfl hqs ?_
                    refine LH.take 11 rfl (by kernel_rfl) (by kernel_rfl) (by kernel_rfl) (fun Hq hq => Y.move rfl rfl) (Wd.g rfl rfl rfl) rfl rfl hqs ?_
                    refine LH.e (g := fun v => v) 12 rfl (by kernel_rfl) (by kernel_rfl) (by kernel_rfl) (Y.slice hb2 (k) (_) rfl Try.runUnderlying22 Try.sizeOf9 rfl (.inr ⟨_, _, _, rfl, rfl, by first | rfl | omega⟩) (.inl ⟨rfl, rfl⟩) (by omega) (by omega)) (Wd.g rfl rfl rfl) rfl rfl hqs (fun v115 rd115 => ?_)
                    refine LH.take 15 rfl (by kernel_rfl) (by kernel_rfl) (by kernel_rfl) (fun Hq hq => Y.move rfl rfl) (Wd.g rfl rfl rfl) rfl rfl hqs ?_
                    refine LH.one (i := 13) (by kernel_rfl) ?_
                    -- call selvage/selvagelaw12.most
                    refine LO.call rfl rfl Try.call18 rfl (Wd.g rfl rfl rfl) rfl rfl (most_ct _ _ _ _ w0 H2 rd112 rd115 (by simp; omega) (by simp; omega)) (fun v116 H116 r116 => ?_)
                    obtain ⟨rfl, hs116⟩ := r116
                    rw [List.take_length, List.take_length, keptE_script]
                    replace hN := hN.tr hs116
                    replace hs := hs.tr hs116
                    have hne := g2 (by omega)
                    have hle := lcs_le (a.drop (i + 1)) (b.drop k)
                    rw [List.length_drop] at hle
                    have hq116 := hqs.tr hs116
                    refine ⟨hq116, ?_⟩
                    refine LH.take 14 rfl (by kernel_rfl) (by kernel_rfl) (by kernel_rfl) (fun Hq hq => Y.addi rfl rfl rfl (by omega)) (Wd.g rfl rfl rfl) rfl rfl hq116 ?_
                    refine LH.take 16 rfl (by kernel_rfl) (by kernel_rfl) (by kernel_rfl) (fun Hq hq => (Y.eql rfl rfl rfl).isF (by omega)) (Wd.g rfl rfl rfl) rfl rfl hq116 ?_
                    refine LH.take 17 rfl (by kernel_rfl) (by kernel_rfl) (by kernel_rfl) (fun Hq hq => Y.pick_t rfl rfl rfl) (Wd.u rfl) rfl rfl hq116 ?_
                    refine LH.done (by kernel_rfl) ?_
                    have hqe := hq116
                    refine hK37 _ _ ?_
                    refine CW.cond_f rfl ?_
                    refine CW.skip ?_
                    refine hK36 _ _ ?_
                    refine CW.region ?_
                    refine LR.v (Y.move rfl rfl) (Wd.u rfl) rfl rfl ?_
                    refine LR.v (Y.addi rfl rfl rfl (by omega)) (Wd.u rfl) rfl rfl ?_
                    refine LR.v (Y.assign rfl rfl) (Wd.u rfl) rfl rfl ?_
                    refine LR.nil ?_
                    refine hK27 _ _ ?_
                    refine hK26 _ _ ?_
                    refine CW.region ?_
                    refine LR.v (Y.move rfl rfl) (Wd.u rfl) rfl rfl ?_
                    refine LR.v (Y.addi rfl rfl rfl (by omega)) (Wd.u rfl) rfl rfl ?_
                    refine LR.v (Y.assign rfl rfl) (Wd.u rfl) rfl rfl ?_
                    refine LR.nil ?_
                    refine QN.sub (hN23 (j + 1, i, k + 1, had, done ++ [2]) _ ?_ ?_) ⟨rfl, rfl, rfl, (iv (by omega)), (iv (by omega)), (iv (by omega)), (iv (by omega)), (iv (by omega)), (iv (by omega)), trivial⟩
                    · exact ⟨hs, hN, hn, by omega, by omega, by rw [hW2, g3]; simp, by rw [hhad, List.count_append]; simp, by simp; omega, by omega⟩
                    · show ((script a b)[n].2 - ((j + 1 : Nat) : Int)).toNat < ((script a b)[n].2 - (j : Int)).toNat; omega
                  ·
                    refine LH.gs 5 rfl (by kernel_rfl) (by kernel_rfl) (by kernel_rfl) rfl rfl rfl rfl rfl rfl hqs ?_
                    refine LH.gs 6 rfl (by kernel_rfl) (by kernel_rfl) (by kernel_rfl) rfl rfl rfl rfl rfl rfl hqs ?_
                    refine LH.gs 7 rfl (by kernel_rfl) (by kernel_rfl) (by kernel_rfl) rfl rfl rfl rfl rfl rfl hqs ?_
                    refine LH.gs 8 rfl (by kernel_rfl) (by kernel_rfl) (by kernel_rfl) rfl rfl rfl rfl rfl rfl hqs ?_
                    refine LH.gs 9 rfl (by kernel_rfl) (by kernel_rfl) (by kernel_rfl) rfl rfl rfl rfl rfl rfl hqs ?_
                    refine LH.gs 10 rfl (by kernel_rfl) (by kernel_rfl) (by kernel_rfl) rfl rfl rfl rfl rfl rfl hqs ?_
                    refine LH.gs 11 rfl (by kernel_rfl) (by kernel_rfl) (by kernel_rfl) rfl rfl rfl rfl rfl rfl hqs ?_
                    refine LH.gs 12 rfl (by kernel_rfl) (by kernel_rfl) (by kernel_rfl) rfl rfl rfl rfl rfl rfl hqs ?_
                    refine LH.gs 13 rfl (by kernel_rfl) (by kernel_rfl) (by kernel_rfl) rfl rfl rfl rfl rfl rfl hqs ?_
                    refine LH.gs 14 rfl (by kernel_rfl) (by kernel_rfl) (by kernel_rfl) rfl rfl rfl rfl rfl rfl hqs ?_
                    refine LH.gs 15 rfl (by kernel_rfl) (by kernel_rfl) (by kernel_rfl) rfl rfl rfl rfl rfl rfl hqs ?_
                    refine LH.gs 16 rfl (by kernel_rfl) (by kernel_rfl) (by kernel_rfl) rfl rfl rfl rfl rfl rfl hqs ?_
                    refine LH.take 17 rfl (by kernel_rfl) (by kernel_rfl) (by kernel_rfl) (fun Hq hq => Y.pick_f rfl rfl rfl) (Wd.u rfl) rfl rfl hqs ?_
                    refine LH.done (by kernel_rfl) ?_
                    have hqe := hqs
                    refine hK37 _ _ ?_
                    refine CW.cond_f rfl ?_
                    refine CW.skip ?_
                    refine hK36 _ _ ?_
                    refine CW.region ?_
                    refine LR.v (Y.move rfl rfl) (Wd.u rfl) rfl rfl ?_
                    refine LR.v (Y.addi rfl rfl rfl (by omega)) (Wd.u rfl) rfl rfl ?_
                    refine LR.v (Y.assign rfl rfl) (Wd.u rfl) rfl rfl ?_
                    refine LR.nil ?_
                    refine hK27 _ _ ?_
                    refine hK26 _ _ ?_
                    refine CW.region ?_
                    refine LR.v (Y.move rfl rfl) (Wd.u rfl) rfl rfl ?_
                    refine LR.v (Y.addi rfl rfl rfl (by omega)) (Wd.u rfl) rfl rfl ?_
                    refine LR.v (Y.assign rfl rfl) (Wd.u rfl) rfl rfl ?_
                    refine LR.nil ?_
                    refine QN.sub (hN23 (j + 1, i, k + 1, had, done ++ [2]) _ ?_ ?_) ⟨rfl, rfl, rfl, (iv (by omega)), (iv (by omega)), (iv (by omega)), (iv (by omega)), (iv (by omega)), (iv (by omega)), trivial⟩
                    · exact ⟨hs, hN, hn, by omega, by omega, by rw [hW2, g3]; simp, by rw [hhad, List.count_append]; simp, by simp; omega, by omega⟩
                    · show ((script a b)[n].2 - ((j + 1 : Nat) : Int)).toNat < ((script a b)[n].2 - (j : Int)).toNat; omega
                ·
                  rw [show (script a b)[n].1 = 1 by omega] at hr hW2
                  obtain ⟨g1, g3⟩ := Wd1 hr
                  refine CW.region ?_
                  refine LR.v (Y.move rfl rfl) (Wd.u rfl) rfl rfl ?_
                  refine LR.v (Y.addi rfl rfl rfl (by omega)) (Wd.u rfl) rfl rfl ?_
                  refine LR.v (Y.assign rfl rfl) (Wd.u rfl) rfl rfl ?_
                  refine LR.nil ?_
                  refine hK27 _ _ ?_
                  refine hK26 _ _ ?_
                  refine CW.region ?_
                  refine LR.v (Y.move rfl rfl) (Wd.u rfl) rfl rfl ?_
                  refine LR.v (Y.addi rfl rfl rfl (by omega)) (Wd.u rfl) rfl rfl ?_
                  refine LR.v (Y.assign rfl rfl) (Wd.u rfl) rfl rfl ?_
                  refine LR.nil ?_
                  refine QN.sub (hN23 (j + 1, i + 1, k, had, done ++ [1]) _ ?_ ?_) ⟨rfl, rfl, rfl, (iv (by omega)), (iv (by omega)), (iv (by omega)), (iv (by omega)), (iv (by omega)), (iv (by omega)), trivial⟩
                  · exact ⟨hs, hN, hn, by omega, by omega, by rw [hW2, g3]; simp, by rw [hhad, List.count_append]; simp, by simp; omega, by omega⟩
                  · show ((script a b)[n].2 - ((j + 1 : Nat) : Int)).toNat < ((script a b)[n].2 - (j : Int)).toNat; omega
              ·
                refine LH.gs 11 rfl (by kernel_rfl) (by kernel_rfl) (by kernel_rfl) rfl rfl rfl rfl rfl rfl hqs ?_
                refine LH.gs 12 rfl (by kernel_rfl) (by kernel_rfl) (by kernel_rfl) rfl rfl rfl rfl rfl rfl hqs ?_
                refine LH.gs 13 rfl (by kernel_rfl) (by kernel_rfl) (by kernel_rfl) rfl rfl rfl rfl rfl rfl hqs ?_
                refine LH.gs 14 rfl (by kernel_rfl) (by kernel_rfl) (by kernel_rfl) rfl rfl rfl rfl rfl rfl hqs ?_
                refine LH.gs 15 rfl (by kernel_rfl) (by kernel_rfl) (by kernel_rfl) rfl rfl rfl rfl rfl rfl hqs ?_
                refine LH.gs 16 rfl (by kernel_rfl) (by kernel_rfl) (by kernel_rfl) rfl rfl rfl rfl rfl rfl hqs ?_
                refine LH.gs 17 rfl (by kernel_rfl) (by kernel_rfl) (by kernel_rfl) rfl rfl rfl rfl rfl rfl hqs ?_
                refine LH.gs 18 rfl (by kernel_rfl) (by kernel_rfl) (by kernel_rfl) rfl rfl rfl rfl rfl rfl hqs ?_
                refine LH.gs 19 rfl (by kernel_rfl) (by kernel_rfl) (by kernel_rfl) rfl rfl rfl rfl rfl rfl hqs ?_
                refine LH.take 20 rfl (by kernel_rfl) (by kernel_rfl) (by kernel_rfl) (fun Hq hq => Y.pick_f rfl rfl rfl) (Wd.u rfl) rfl rfl hqs ?_
                refine LH.take 21 rfl (by kernel_rfl) (by kernel_rfl) (by kernel_rfl) (fun Hq hq => Y.move rfl rfl) (Wd.u rfl) rfl rfl hqs ?_
                refine LH.gs 22 rfl (by kernel_rfl) (by kernel_rfl) (by kernel_rfl) rfl rfl rfl rfl rfl rfl hqs ?_
                refine LH.gs 23 rfl (by kernel_rfl) (by kernel_rfl) (by kernel_rfl) rfl rfl rfl rfl rfl rfl hqs ?_
                refine LH.gs 24 rfl (by kernel_rfl) (by kernel_rfl) (by kernel_rfl) rfl rfl rfl rfl rfl rfl hqs ?_
                refine LH.gs 25 rfl (by kernel_rfl) (by kernel_rfl) (by kernel_rfl) rfl rfl rfl rfl rfl rfl hqs ?_
                refine LH.gs 26 rfl (by kernel_rfl) (by kernel_rfl) (by kernel_rfl) rfl rfl rfl rfl rfl rfl hqs ?_
                refine LH.gs 27 rfl (by kernel_rfl) (by kernel_rfl) (by kernel_rfl) rfl rfl rfl rfl rfl rfl hqs ?_
                refine LH.gs 28 rfl (by kernel_rfl) (by kernel_rfl) (by kernel_rfl) rfl rfl rfl rfl rfl rfl hqs ?_
                refine LH.gs 29 rfl (by kernel_rfl) (by kernel_rfl) (by kernel_rfl) rfl rfl rfl rfl rfl rfl hqs ?_
                refine LH.gs 30 rfl (by kernel_rfl) (by kernel_rfl) (by kernel_rfl) rfl rfl rfl rfl rfl rfl hqs ?_
                refine LH.gs 31 rfl (by kernel_rfl) (by kernel_rfl) (by kernel_rfl) rfl rfl rfl rfl rfl rfl hqs ?_
                refine LH.gs 32 rfl (by kernel_rfl) (by kernel_rfl) (by kernel_rfl) rfl rfl rfl rfl rfl rfl hqs ?_
                refine LH.gs 33 rfl (by kernel_rfl) (by kernel_rfl) (by kernel_rfl) rfl rfl rfl rfl rfl rfl hqs ?_
                refine LH.gs 34 rfl (by kernel_rfl) (by kernel_rfl) (by kernel_rfl) rfl rfl rfl rfl rfl rfl hqs ?_
                refine LH.gs 35 rfl (by kernel_rfl) (by kernel_rfl) (by kernel_rfl) rfl rfl rfl rfl rfl rfl hqs ?_
                refine LH.take 36 rfl (by kernel_rfl) (by kernel_rfl) (by kernel_rfl) (fun Hq hq => Y.pick_f rfl rfl rfl) (Wd.u rfl) rfl rfl hqs ?_
                refine LH.done (by kernel_rfl) ?_
                have hqe := hqs
                refine hK34 _ _ ?_
                refine CW.cond_f rfl ?_
                refine CW.skip ?_
                refine hK33 _ _ ?_
                refine CW.seq (fun K38 hK38 hE38 => ?_)
                refine CW.region ?_
                refine LR.v (Y.move rfl rfl) (Wd.u rfl) rfl rfl ?_
                refine LR.v (Y.move rfl rfl) (Wd.u rfl) rfl rfl ?_
                refine LR.e (g := fun ad => .pointer (some ad)) (Y.indexAddr hoe2 (n) rfl Try.runUnderlying25 Try.sizeOf36 rfl rfl (by first | rfl | omega) (by omega)) (Wd.u rfl) rfl rfl (fun ad99 pt99 => ?_)
                refine LR.v (Y.fieldAddr pt99 rfl Try.runUnderlying36 rfl rfl Try.sizeOf3 (by decide) rfl) (Wd.u rfl) rfl rfl ?_
                refine LR.v (Y.load1 (pt99.drop 0) rfl Try.isAgg3 rfl) (Wd.u rfl) rfl rfl ?_
                refine LR.v (Y.eql rfl rfl rfl) (Wd.u rfl) rfl rfl ?_
                refine LR.nil ?_
                refine hK38 _ _ ?_
                refine CW.condp rfl (fun c102 => ?_) (fun c102 => ?_)
                ·
                  rw [c102] at hr hW2
                  obtain ⟨g1, g2, g3⟩ := Wd2 hr
                  refine CW.seq (fun K39 hK39 hE39 => ?_)
                  refine CW.seq (fun K40 hK40 hE40 => ?_)
                  refine CW.region_any (fun Hq => Nw H2 Hq) rfl ?_
                  have hqs := Nw.refl H2
                  refine LH.take 0 rfl (by kernel_rfl) (by kernel_rfl) (by kernel_rfl) (fun Hq hq => Y.move rfl rfl) (Wd.u rfl) rfl rfl hqs ?_
                  refine LH.take 1 rfl (by kernel_rfl) (by kernel_rfl) (by kernel_rfl) (fun Hq hq => Y.move rfl rfl) (Wd.u rfl) rfl rfl hqs ?_
                  refine LH.take 2 rfl (by kernel_rfl) (by kernel_rfl) (by kernel_rfl) (fun Hq hq => Y.len (ha2.nw hq) rfl Try.runUnderlying22 rfl) (Wd.u rfl) rfl rfl hqs ?_
                  refine LH.take 3 rfl (by kernel_rfl) (by kernel_rfl) (by kernel_rfl) (fun Hq hq => Y.lss rfl rfl rfl) (Wd.u rfl) rfl rfl hqs ?_
                  refine LH.take 4 rfl (by kernel_rfl) (by kernel_rfl) (by kernel_rfl) (fun Hq hq => Y.move rfl rfl) (Wd.u rfl) rfl rfl hqs ?_
                  refine LH.splitp (d := 107) rfl (fun g107 => ?_) (fun g107 => ?_)
                  ·
                    refine LH.take 5 rfl (by kernel_rfl) (by kernel_rfl) (by kernel_rfl) (fun Hq hq => Y.move rfl rfl) (Wd.g rfl rfl rfl) rfl rfl hqs ?_
                    refine LH.take 6 rfl (by kernel_rfl) (by kernel_rfl) (by kernel_rfl) (fun Hq hq => Y.move rfl rfl) (Wd.g rfl rfl rfl) rfl rfl hqs ?_
                    refine LH.take 7 rfl (by kernel_rfl) (by kernel_rfl) (by kernel_rfl) (fun Hq hq => Y.move rfl rfl) (Wd.g rfl rfl rfl) rfl rfl hqs ?_
                    refine LH.take 8 rfl (by kernel_rfl) (by kernel_rfl) (by kernel_rfl) (fun Hq hq => Y.addi rfl rfl rfl (by omega)) (Wd.g rfl rfl rfl) rfl rfl hqs ?_
                    refine LH.e (g := fun v => v) 9 rfl (by kernel_rfl) (by kernel_rfl) (by kernel_rfl) (Y.slice ha2 (i + 1) (_) rfl Try.runUnderlying22 Try.sizeOf9 rfl (.inr ⟨_, _, _, rfl, rfl, by first | rfl | omega⟩) (.inl ⟨rfl, rfl⟩) (by omega) (by omega)) (Wd.g rfl rfl rfl) rfl rfl hqs (fun v112 rd112 => ?_)
                    refine LH.take 10 rfl (by kernel_rfl) (by kernel_rfl) (by kernel_rfl) (fun Hq hq => Y.move rfl rfl) (Wd.g rfl rfl rfl) rfl rfl hqs ?_
                    refine LH.take 11 rfl (by kernel_rfl) (by kernel_rfl) (by kernel_rfl) (fun Hq hq => Y.move rfl rfl) (Wd.g rfl rfl rfl) rfl rfl hqs ?_
                    refine LH.e (g := fun v => v) 12 rfl (by kernel_rfl) (by kernel_rfl) (by kernel_rfl) (Y.slice hb2 (k) (_) rfl Try.runUnderlying22 Try.sizeOf9 rfl (.inr ⟨_, _, _, rfl, rfl, by first | rfl | omega⟩) (.inl ⟨rfl, rfl⟩) (by omega) (by omega)) (Wd.g rfl rfl rfl) rfl rfl hqs (fun v115 rd115 => ?_)
                    refine LH.take 15 rfl (by kernel_rfl) (by kernel_rfl) (by kernel_rfl) (fun Hq hq => Y.move rfl rfl) (Wd.g rfl rfl rfl) rfl rfl hqs ?_
                    refine LH.one (i := 13) (by kernel_rfl) ?_
                    -- call selvage/selvagelaw12.most
                    refine LO.call rfl rfl Try.call18 rfl (Wd.g rfl rfl rfl) rfl rfl (most_ct _ _ _ _ w0 H2 rd112 rd115 (by simp; omega) (by simp; omega)) (fun v116 H116 r116 => ?_)
                    obtain ⟨rfl, hs116⟩ := r116
                    rw [List.take_length, List.take_length, keptE_script]
                    replace hN := hN.tr hs116
                    replace hs := hs.tr hs116
                    have hne := g2 (by omega)
                    have hle := lcs_le (a.drop (i + 1)) (b.drop k)
                    rw [List.length_drop] at hle
                    have hq116 := hqs.tr hs116
                    refine ⟨hq116, ?_⟩
                    refine LH.take 14 rfl (by kernel_rfl) (by kernel_rfl) (by kernel_rfl) (fun Hq hq => Y.addi rfl rfl rfl (by omega)) (Wd.g rfl rfl rfl) rfl rfl hq116 ?_
                    refine LH.take 16 rfl (by kernel_rfl) (by kernel_rfl) (by kernel_rfl) (fun Hq hq => (Y.eql rfl rfl rfl).isF (by omega)) (Wd.g rfl rfl rfl) rfl rfl hq116 ?_
                    refine LH.take 17 rfl (by kernel_rfl) (by kernel_rfl) (by kernel_rfl) (fun Hq hq => Y.pick_t rfl rfl rfl) (Wd.u rfl) rfl rfl hq116 ?_
                    refine LH.done (by kernel_rfl) ?_
                    have hqe := hq116
                    refine hK40 _ _ ?_
                    refine CW.cond_f rfl ?_
                    refine CW.skip ?_
                    refine hK39 _ _ ?_
                    refine CW.region ?_
                    refine LR.v (Y.move rfl rfl) (Wd.u rfl) rfl rfl ?_
                    refine LR.v (Y.addi rfl rfl rfl (by omega)) (Wd.u rfl) rfl rfl ?_
                    refine LR.v (Y.assign rfl rfl) (Wd.u rfl) rfl rfl ?_
                    refine LR.nil ?_
                    refine hK27 _ _ ?_
                    refine hK26 _ _ ?_
                    refine CW.region ?_
                    refine LR.v (Y.move rfl rfl) (Wd.u rfl) rfl rfl ?_
                    refine LR.v (Y.addi rfl rfl rfl (by omega)) (Wd.u rfl) rfl rfl ?_
                    refine LR.v (Y.assign rfl rfl) (Wd.u rfl) rfl rfl ?_
                    refine LR.nil ?_
                    refine QN.sub (hN23 (j + 1, i, k + 1, had, done ++ [2]) _ ?_ ?_) ⟨rfl, rfl, rfl, (iv (by omega)), (iv (by omega)), (iv (by omega)), (iv (by omega)), (iv (by omega)), (iv (by omega)), trivial⟩
                    · exact ⟨hs, hN, hn, by omega, by omega, by rw [hW2, g3]; simp, by rw [hhad, List.count_append]; simp, by simp; omega, by omega⟩
                    · show ((script a b)[n].2 - ((j + 1 : Nat) : Int)).toNat < ((script a b)[n].2 - (j : Int)).toNat; omega
                  ·
                    refine LH.gs 5 rfl (by kernel_rfl) (by kernel_rfl) (by kernel_rfl) rfl rfl rfl rfl rfl rfl hqs ?_
                    refine LH.gs 6 rfl (by kernel_rfl) (by kernel_rfl) (by kernel_rfl) rfl rfl rfl rfl rfl rfl hqs ?_
                    refine LH.gs 7 rfl (by kernel_rfl) (by kernel_rfl) (by kernel_rfl) rfl rfl rfl rfl rfl rfl hqs ?_
                    refine LH.gs 8 rfl (by kernel_rfl) (by kernel_rfl) (by kernel_rfl) rfl rfl rfl rfl rfl rfl hqs ?_
                    refine LH.gs 9 rfl (by kernel_rfl) (by kernel_rfl) (by kernel_rfl) rfl rfl rfl rfl rfl rfl hqs ?_
                    refine LH.gs 10 rfl (by kernel_rfl) (by kernel_rfl) (by kernel_rfl) rfl rfl rfl rfl rfl rfl hqs ?_
                    refine LH.gs 11 rfl (by kernel_rfl) (by kernel_rfl) (by kernel_rfl) rfl rfl rfl rfl rfl rfl hqs ?_
                    refine LH.gs 12 rfl (by kernel_rfl) (by kernel_rfl) (by kernel_rfl) rfl rfl rfl rfl rfl rfl hqs ?_
                    refine LH.gs 13 rfl (by kernel_rfl) (by kernel_rfl) (by kernel_rfl) rfl rfl rfl rfl rfl rfl hqs ?_
                    refine LH.gs 14 rfl (by kernel_rfl) (by kernel_rfl) (by kernel_rfl) rfl rfl rfl rfl rfl rfl hqs ?_
                    refine LH.gs 15 rfl (by kernel_rfl) (by kernel_rfl) (by kernel_rfl) rfl rfl rfl rfl rfl rfl hqs ?_
                    refine LH.gs 16 rfl (by kernel_rfl) (by kernel_rfl) (by kernel_rfl) rfl rfl rfl rfl rfl rfl hqs ?_
                    refine LH.take 17 rfl (by kernel_rfl) (by kernel_rfl) (by kernel_rfl) (fun Hq hq => Y.pick_f rfl rfl rfl) (Wd.u rfl) rfl rfl hqs ?_
                    refine LH.done (by kernel_rfl) ?_
                    have hqe := hqs
                    refine hK40 _ _ ?_
                    refine CW.cond_f rfl ?_
                    refine CW.skip ?_
                    refine hK39 _ _ ?_
                    refine CW.region ?_
                    refine LR.v (Y.move rfl rfl) (Wd.u rfl) rfl rfl ?_
                    refine LR.v (Y.addi rfl rfl rfl (by omega)) (Wd.u rfl) rfl rfl ?_
                    refine LR.v (Y.assign rfl rfl) (Wd.u rfl) rfl rfl ?_
                    refine LR.nil ?_
                    refine hK27 _ _ ?_
                    refine hK26 _ _ ?_
                    refine CW.region ?_
                    refine LR.v (Y.move rfl rfl) (Wd.u rfl) rfl rfl ?_
                    refine LR.v (Y.addi rfl rfl rfl (by omega)) (Wd.u rfl) rfl rfl ?_
                    refine LR.v (Y.assign rfl rfl) (Wd.u rfl) rfl rfl ?_
                    refine LR.nil ?_
                    refine QN.sub (hN23 (j + 1, i, k + 1, had, done ++ [2]) _ ?_ ?_) ⟨rfl, rfl, rfl, (iv (by omega)), (iv (by omega)), (iv (by omega)), (iv (by omega)), (iv (by omega)), (iv (by omega)), trivial⟩
                    · exact ⟨hs, hN, hn, by omega, by omega, by rw [hW2, g3]; simp, by rw [hhad, List.count_append]; simp, by simp; omega, by omega⟩
                    · show ((script a b)[n].2 - ((j + 1 : Nat) : Int)).toNat < ((script a b)[n].2 - (j : Int)).toNat; omega
                ·
                  rw [show (script a b)[n].1 = 1 by omega] at hr hW2
                  obtain ⟨g1, g3⟩ := Wd1 hr
                  refine CW.region ?_
                  refine LR.v (Y.move rfl rfl) (Wd.u rfl) rfl rfl ?_
                  refine LR.v (Y.addi rfl rfl rfl (by omega)) (Wd.u rfl) rfl rfl ?_
                  refine LR.v (Y.assign rfl rfl) (Wd.u rfl) rfl rfl ?_
                  refine LR.nil ?_
                  refine hK27 _ _ ?_
                  refine hK26 _ _ ?_
                  refine CW.region ?_
                  refine LR.v (Y.move rfl rfl) (Wd.u rfl) rfl rfl ?_
                  refine LR.v (Y.addi rfl rfl rfl (by omega)) (Wd.u rfl) rfl rfl ?_
                  refine LR.v (Y.assign rfl rfl) (Wd.u rfl) rfl rfl ?_
                  refine LR.nil ?_
                  refine QN.sub (hN23 (j + 1, i + 1, k, had, done ++ [1]) _ ?_ ?_) ⟨rfl, rfl, rfl, (iv (by omega)), (iv (by omega)), (iv (by omega)), (iv (by omega)), (iv (by omega)), (iv (by omega)), trivial⟩
                  · exact ⟨hs, hN, hn, by omega, by omega, by rw [hW2, g3]; simp, by rw [hhad, List.count_append]; simp, by simp; omega, by omega⟩
                  · show ((script a b)[n].2 - ((j + 1 : Nat) : Int)).toNat < ((script a b)[n].2 - (j : Int)).toNat; omega
            ·
              refine LH.gs 5 rfl (by kernel_rfl) (by kernel_rfl) (by kernel_rfl) rfl rfl rfl rfl rfl rfl hqs ?_
              refine LH.gs 6 rfl (by kernel_rfl) (by kernel_rfl) (by kernel_rfl) rfl rfl rfl rfl rfl rfl hqs ?_
              refine LH.gs 7 rfl (by kernel_rfl) (by kernel_rfl) (by kernel_rfl) rfl rfl rfl rfl rfl rfl hqs ?_
              refine LH.gs 8 rfl (by kernel_rfl) (by kernel_rfl) (by kernel_rfl) rfl rfl rfl rfl rfl rfl hqs ?_
              refine LH.take 9 rfl (by kernel_rfl) (by kernel_rfl) (by kernel_rfl) (fun Hq hq => Y.pick_f rfl rfl rfl) (Wd.u rfl) rfl rfl hqs ?_
              refine LH.take 10 rfl (by kernel_rfl) (by kernel_rfl) (by kernel_rfl) (fun Hq hq => Y.move rfl rfl) (Wd.u rfl) rfl rfl hqs ?_
              refine LH.gs 11 rfl (by kernel_rfl) (by kernel_rfl) (by kernel_rfl) rfl rfl rfl rfl rfl rfl hqs ?_
              refine LH.gs 12 rfl (by kernel_rfl) (by kernel_rfl) (by kernel_rfl) rfl rfl rfl rfl rfl rfl hqs ?_
              refine LH.gs 13 rfl (by kernel_rfl) (by kernel_rfl) (by kernel_rfl) rfl rfl rfl rfl rfl rfl hqs ?_
              refine LH.gs 14 rfl (by kernel_rfl) (by kernel_rfl) (by kernel_rfl) rfl rfl rfl rfl rfl rfl hqs ?_
              refine LH.gs 15 rfl (by kernel_rfl) (by kernel_rfl) (by kernel_rfl) rfl rfl rfl rfl rfl rfl hqs ?_
              refine LH.gs 16 rfl (by kernel_rfl) (by kernel_rfl) (by kernel_rfl) rfl rfl rfl rfl rfl rfl hqs ?_
              refine LH.gs 17 rfl (by kernel_rfl) (by kernel_rfl) (by kernel_rfl) rfl rfl rfl rfl rfl rfl hqs ?_
              refine LH.gs 18 rfl (by kernel_rfl) (by kernel_rfl) (by kernel_rfl) rfl rfl rfl rfl rfl rfl hqs ?_
              refine LH.gs 19 rfl (by kernel_rfl) (by kernel_rfl) (by kernel_rfl) rfl rfl rfl rfl rfl rfl hqs ?_
              refine LH.take 20 rfl (by kernel_rfl) (by kernel_rfl) (by kernel_rfl) (fun Hq hq => Y.pick_f rfl rfl rfl) (Wd.u rfl) rfl rfl hqs ?_
              refine LH.take 21 rfl (by kernel_rfl) (by kernel_rfl) (by kernel_rfl) (fun Hq hq => Y.move rfl rfl) (Wd.u rfl) rfl rfl hqs ?_
              refine LH.gs 22 rfl (by kernel_rfl) (by kernel_rfl) (by kernel_rfl) rfl rfl rfl rfl rfl rfl hqs ?_
              refine LH.gs 23 rfl (by kernel_rfl) (by kernel_rfl) (by kernel_rfl) rfl rfl rfl rfl rfl rfl hqs ?_
              refine LH.gs 24 rfl (by kernel_rfl) (by kernel_rfl) (by kernel_rfl) rfl rfl rfl rfl rfl rfl hqs ?_
              refine LH.gs 25 rfl (by kernel_rfl) (by kernel_rfl) (by kernel_rfl) rfl rfl rfl rfl rfl rfl hqs ?_
              refine LH.gs 26 rfl (by kernel_rfl) (by kernel_rfl) (by kernel_rfl) rfl rfl rfl rfl rfl rfl hqs ?_
              refine LH.gs 27 rfl (by kernel_rfl) (by kernel_rfl) (by kernel_rfl) rfl rfl rfl rfl rfl rfl hqs ?_
              refine LH.gs 28 rfl (by kernel_rfl) (by kernel_rfl) (by kernel_rfl) rfl rfl rfl rfl rfl rfl hqs ?_
              refine LH.gs 29 rfl (by kernel_rfl) (by kernel_rfl) (by kernel_rfl) rfl rfl rfl rfl rfl rfl hqs ?_
              refine LH.gs 30 rfl (by kernel_rfl) (by kernel_rfl) (by kernel_rfl) rfl rfl rfl rfl rfl rfl hqs ?_
              refine LH.gs 31 rfl (by kernel_rfl) (by kernel_rfl) (by kernel_rfl) rfl rfl rfl rfl rfl rfl hqs ?_
              refine LH.gs 32 rfl (by kernel_rfl) (by kernel_rfl) (by kernel_rfl) rfl rfl rfl rfl rfl rfl hqs ?_
              refine LH.gs 33 rfl (by kernel_rfl) (by kernel_rfl) (by kernel_rfl) rfl rfl rfl rfl rfl rfl hqs ?_
              refine LH.gs 34 rfl (by kernel_rfl) (by kernel_rfl) (by kernel_rfl) rfl rfl rfl rfl rfl rfl hqs ?_
              refine LH.gs 35 rfl (by kernel_rfl) (by kernel_rfl) (by kernel_rfl) rfl rfl rfl rfl rfl rfl hqs ?_
              refine LH.take 36 rfl (by kernel_rfl) (by kernel_rfl) (by kernel_rfl) (fun Hq hq => Y.pick_f rfl rfl rfl) (Wd.u rfl) rfl rfl hqs ?_
              refine LH.done (by kernel_rfl) ?_
              have hqe := hqs
              refine hK34 _ _ ?_
              refine CW.cond_f rfl ?_
              refine CW.skip ?_
              refine hK33 _ _ ?_
              refine CW.seq (fun K41 hK41 hE41 => ?_)
              refine CW.region ?_
              refine LR.v (Y.move rfl rfl) (Wd.u rfl) rfl rfl ?_
              refine LR.v (Y.move rfl rfl) (Wd.u rfl) rfl rfl ?_
              refine LR.e (g := fun ad => .pointer (some ad)) (Y.indexAddr hoe2 (n) rfl Try.runUnderlying25 Try.sizeOf36 rfl rfl (by first | rfl | omega) (by omega)) (Wd.u rfl) rfl rfl (fun ad99 pt99 => ?_)
              refine LR.v (Y.fieldAddr pt99 rfl Try.runUnderlying36 rfl rfl Try.sizeOf3 (by decide) rfl) (Wd.u rfl) rfl rfl ?_
              refine LR.v (Y.load1 (pt99.drop 0) rfl Try.isAgg3 rfl) (Wd.u rfl) rfl rfl ?_
              refine LR.v (Y.eql rfl rfl rfl) (Wd.u rfl) rfl rfl ?_
              refine LR.nil ?_
              refine hK41 _ _ ?_
              refine CW.condp rfl (fun c102 => ?_) (fun c102 => ?_)
              ·
                rw [c102] at hr hW2
                obtain ⟨g1, g2, g3⟩ := Wd2 hr
                refine CW.seq (fun K42 hK42 hE42 => ?_)
                refine CW.seq (fun K43 hK43 hE43 => ?_)
                refine CW.region_any (fun Hq => Nw H2 Hq) rfl ?_
                have hqs := Nw.refl H2
                refine LH.take 0 rfl (by kernel_rfl) (by kernel_rfl) (by kernel_rfl) (fun Hq hq => Y.move rfl rfl) (Wd.u rfl) rfl rfl hqs ?_
                refine LH.take 1 rfl (by kernel_rfl) (by kernel_rfl) (by kernel_rfl) (fun Hq hq => Y.move rfl rfl) (Wd.u rfl) rfl rfl hqs ?_
                refine LH.take 2 rfl (by kernel_rfl) (by kernel_rfl) (by kernel_rfl) (fun Hq hq => Y.len (ha2.nw hq) rfl Try.runUnderlying22 rfl) (Wd.u rfl) rfl rfl hqs ?_
                refine LH.take 3 rfl (by kernel_rfl) (by kernel_rfl) (by kernel_rfl) (fun Hq hq => Y.lss rfl rfl rfl) (Wd.u rfl) rfl rfl hqs ?_
                refine LH.take 4 rfl (by kernel_rfl) (by kernel_rfl) (by kernel_rfl) (fun Hq hq => Y.move rfl rfl) (Wd.u rfl) rfl rfl hqs ?_
                refine LH.splitp (d := 107) rfl (fun g107 => ?_) (fun g107 => ?_)
                ·
                  refine LH.take 5 rfl (by kernel_rfl) (by kernel_rfl) (by kernel_rfl) (fun Hq hq => Y.move rfl rfl) (Wd.g rfl rfl rfl) rfl rfl hqs ?_
                  refine LH.take 6 rfl (by kernel_rfl) (by kernel_rfl) (by kernel_rfl) (fun Hq hq => Y.move rfl rfl) (Wd.g rfl rfl rfl) rfl rfl hqs ?_
                  refine LH.take 7 rfl (by kernel_rfl) (by kernel_rfl) (by kernel_rfl) (fun Hq hq => Y.move rfl rfl) (Wd.g rfl rfl rfl) rfl rfl hqs ?_
                  refine LH.take 8 rfl (by kernel_rfl) (by kernel_rfl) (by kernel_rfl) (fun Hq hq => Y.addi rfl rfl rfl (by omega)) (Wd.g rfl rfl rfl) rfl rfl hqs ?_
                  refine LH.e (g := fun v => v) 9 rfl (by kernel_rfl) (by kernel_rfl) (by kernel_rfl) (Y.slice ha2 (i + 1) (_) rfl Try.runUnderlying22 Try.sizeOf9 rfl (.inr ⟨_, _, _, rfl, rfl, by first | rfl | omega⟩) (.inl ⟨rfl, rfl⟩) (by omega) (by omega)) (Wd.g rfl rfl rfl) rfl rfl hqs (fun v112 rd112 => ?_)
                  refine LH.take 10 rfl (by kernel_rfl) (by kernel_rfl) (by kernel_rfl) (fun Hq hq => Y.move rfl rfl) (Wd.g rfl rfl rfl) rfl rfl hqs ?_
                  refine LH.take 11 rfl (by kernel_rfl) (by kernel_rfl) (by kernel_rfl) (fun Hq hq => Y.move rfl rfl) (Wd.g rfl rfl rfl) rfl rfl hqs ?_
                  refine LH.e (g := fun v => v) 12 rfl (by kernel_rfl) (by kernel_rfl) (by kernel_rfl) (Y.slice hb2 (k) (_) rfl Try.runUnderlying22 Try.sizeOf9 rfl (.inr ⟨_, _, _, rfl, rfl, by first | rfl | omega⟩) (.inl ⟨rfl, rfl⟩) (by omega) (by omega)) (Wd.g rfl rfl rfl) rfl rfl hqs (fun v115 rd115 => ?_)
                  refine LH.take 15 rfl (by kernel_rfl) (by kernel_rfl) (by kernel_rfl) (fun Hq hq => Y.move rfl rfl) (Wd.g rfl rfl rfl) rfl rfl hqs ?_
                  refine LH.one (i := 13) (by kernel_rfl) ?_
                  -- call selvage/selvagelaw12.most
                  refine LO.call rfl rfl Try.call18 rfl (Wd.g rfl rfl rfl) rfl rfl (most_ct _ _ _ _ w0 H2 rd112 rd115 (by simp; omega) (by simp; omega)) (fun v116 H116 r116 => ?_)
                  obtain ⟨rfl, hs116⟩ := r116
                  rw [List.take_length, List.take_length, keptE_script]
                  replace hN := hN.tr hs116
                  replace hs := hs.tr hs116
                  have hne := g2 (by omega)
                  have hle := lcs_le (a.drop (i + 1)) (b.drop k)
                  rw [List.length_drop] at hle
                  have hq116 := hqs.tr hs116
                  refine ⟨hq116, ?_⟩
                  refine LH.take 14 rfl (by kernel_rfl) (by kernel_rfl) (by kernel_rfl) (fun Hq hq => Y.addi rfl rfl rfl (by omega)) (Wd.g rfl rfl rfl) rfl rfl hq116 ?_
                  refine LH.take 16 rfl (by kernel_rfl) (by kernel_rfl) (by kernel_rfl) (fun Hq hq => (Y.eql rfl rfl rfl).isF (by omega)) (Wd.g rfl rfl rfl) rfl rfl hq116 ?_
                  refine LH.take 17 rfl (by kernel_rfl) (by kernel_rfl) (by kernel_rfl) (fun Hq hq => Y.pick_t rfl rfl rfl) (Wd.u rfl) rfl rfl hq116 ?_
                  refine LH.done (by kernel_rfl) ?_
                  have hqe := hq116
                  refine hK43 _ _ ?_
                  refine CW.cond_f rfl ?_
                  refine CW.skip ?_
                  refine hK42 _ _ ?_
                  refine CW.region ?_
                  refine LR.v (Y.move rfl rfl) (Wd.u rfl) rfl rfl ?_
                  refine LR.v (Y.addi rfl rfl rfl (by omega)) (Wd.u rfl) rfl rfl ?_
                  refine LR.v (Y.assign rfl rfl) (Wd.u rfl) rfl rfl ?_
                  refine LR.nil ?_
                  refine hK27 _ _ ?_
                  refine hK26 _ _ ?_
                  refine CW.region ?_
                  refine LR.v (Y.move rfl rfl) (Wd.u rfl) rfl rfl ?_
                  refine LR.v (Y.addi rfl rfl rfl (by omega)) (Wd.u rfl) rfl rfl ?_
                  refine LR.v (Y.assign rfl rfl) (Wd.u rfl) rfl rfl ?_
                  refine LR.nil ?_
                  refine QN.sub (hN23 (j + 1, i, k + 1, had, done ++ [2]) _ ?_ ?_) ⟨rfl, rfl, rfl, (iv (by omega)), (iv (by omega)), (iv (by omega)), (iv (by omega)), (iv (by omega)), (iv (by omega)), trivial⟩
                  · exact ⟨hs, hN, hn, by omega, by omega, by rw [hW2, g3]; simp, by rw [hhad, List.count_append]; simp, by simp; omega, by omega⟩
                  · show ((script a b)[n].2 - ((j + 1 : Nat) : Int)).toNat < ((script a b)[n].2 - (j : Int)).toNat; omega
                ·
                  refine LH.gs 5 rfl (by kernel_rfl) (by kernel_rfl) (by kernel_rfl) rfl rfl rfl rfl rfl rfl hqs ?_
                  refine LH.gs 6 rfl (by kernel_rfl) (by kernel_rfl) (by kernel_rfl) rfl rfl rfl rfl rfl rfl hqs ?_
                  refine LH.gs 7 rfl (by kernel_rfl) (by kernel_rfl) (by kernel_rfl) rfl rfl rfl rfl rfl rfl hqs ?_
                  refine LH.gs 8 rfl (by kernel_rfl) (by kernel_rfl) (by kernel_rfl) rfl rfl rfl rfl rfl rfl hqs ?_
                  refine LH.gs 9 rfl (by kernel_rfl) (by kernel_rfl) (by kernel_rfl) rfl rfl rfl rfl rfl rfl hqs ?_
                  refine LH.gs 10 rfl (by kernel_rfl) (by kernel_rfl) (by kernel_rfl) rfl rfl rfl rfl rfl rfl hqs ?_
                  refine LH.gs 11 rfl (by kernel_rfl) (by kernel_rfl) (by kernel_rfl) rfl rfl rfl rfl rfl rfl hqs ?_
                  refine LH.gs 12 rfl (by kernel_rfl) (by kernel_rfl) (by kernel_rfl) rfl rfl rfl rfl rfl rfl hqs ?_
                  refine LH.gs 13 rfl (by kernel_rfl) (by kernel_rfl) (by kernel_rfl) rfl rfl rfl rfl rfl rfl hqs ?_
                  refine LH.gs 14 rfl (by kernel_rfl) (by kernel_rfl) (by kernel_rfl) rfl rfl rfl rfl rfl rfl hqs ?_
                  refine LH.gs 15 rfl (by kernel_rfl) (by kernel_rfl) (by kernel_rfl) rfl rfl rfl rfl rfl rfl hqs ?_
                  refine LH.gs 16 rfl (by kernel_rfl) (by kernel_rfl) (by kernel_rfl) rfl rfl rfl rfl rfl rfl hqs ?_
                  refine LH.take 17 rfl (by kernel_rfl) (by kernel_rfl) (by kernel_rfl) (fun Hq hq => Y.pick_f rfl rfl rfl) (Wd.u rfl) rfl rfl hqs ?_
                  refine LH.done (by kernel_rfl) ?_
                  have hqe := hqs
                  refine hK43 _ _ ?_
                  refine CW.cond_f rfl ?_
                  refine CW.skip ?_
                  refine hK42 _ _ ?_
                  refine CW.region ?_
                  refine LR.v (Y.move rfl rfl) (Wd.u rfl) rfl rfl ?_
                  refine LR.v (Y.addi rfl rfl rfl (by omega)) (Wd.u rfl) rfl rfl ?_
                  refine LR.v (Y.assign rfl rfl) (Wd.u rfl) rfl rfl ?_
                  refine LR.nil ?_
                  refine hK27 _ _ ?_
                  refine hK26 _ _ ?_
                  refine CW.region ?_
                  refine LR.v (Y.move rfl rfl) (Wd.u rfl) rfl rfl ?_
                  refine LR.v (Y.addi rfl rfl rfl (by omega)) (Wd.u rfl) rfl rfl ?_
                  refine LR.v (Y.assign rfl rfl) (Wd.u rfl) rfl rfl ?_
                  refine LR.nil ?_
                  refine QN.sub (hN23 (j + 1, i, k + 1, had, done ++ [2]) _ ?_ ?_) ⟨rfl, rfl, rfl, (iv (by omega)), (iv (by omega)), (iv (by omega)), (iv (by omega)), (iv (by omega)), (iv (by omega)), trivial⟩
                  · exact ⟨hs, hN, hn, by omega, by omega, by rw [hW2, g3]; simp, by rw [hhad, List.count_append]; simp, by simp; omega, by omega⟩
                  · show ((script a b)[n].2 - ((j + 1 : Nat) : Int)).toNat < ((script a b)[n].2 - (j : Int)).toNat; omega
              ·
                rw [show (script a b)[n].1 = 1 by omega] at hr hW2
                obtain ⟨g1, g3⟩ := Wd1 hr
                refine CW.region ?_
                refine LR.v (Y.move rfl rfl) (Wd.u rfl) rfl rfl ?_
                refine LR.v (Y.addi rfl rfl rfl (by omega)) (Wd.u rfl) rfl rfl ?_
                refine LR.v (Y.assign rfl rfl) (Wd.u rfl) rfl rfl ?_
                refine LR.nil ?_
                refine hK27 _ _ ?_
                refine hK26 _ _ ?_
                refine CW.region ?_
                refine LR.v (Y.move rfl rfl) (Wd.u rfl) rfl rfl ?_
                refine LR.v (Y.addi rfl rfl rfl (by omega)) (Wd.u rfl) rfl rfl ?_
                refine LR.v (Y.assign rfl rfl) (Wd.u rfl) rfl rfl ?_
                refine LR.nil ?_
                refine QN.sub (hN23 (j + 1, i + 1, k, had, done ++ [1]) _ ?_ ?_) ⟨rfl, rfl, rfl, (iv (by omega)), (iv (by omega)), (iv (by omega)), (iv (by omega)), (iv (by omega)), (iv (by omega)), trivial⟩
                · exact ⟨hs, hN, hn, by omega, by omega, by rw [hW2, g3]; simp, by rw [hhad, List.count_append]; simp, by simp; omega, by omega⟩
                · show ((script a b)[n].2 - ((j + 1 : Nat) : Int)).toNat < ((script a b)[n].2 - (j : Int)).toNat; omega
        ·
          refine CW.exit (hE24 (.exit 2) nofun _ _ (hE23 (.exit 2) nofun _ _ (hX22 _ _ ?_)))
          refine hK20 _ _ ?_
          refine hK19 _ _ ?_
          refine CW.region ?_
          refine LR.v (Y.move rfl rfl) (Wd.u rfl) rfl rfl ?_
          refine LR.v (Y.addi rfl rfl rfl (by omega)) (Wd.u rfl) rfl rfl ?_
          refine LR.v (Y.assign rfl rfl) (Wd.u rfl) rfl rfl ?_
          refine LR.nil ?_
          refine QN.sub (hN16 (n + 1, i, k, had, done) _ ?_ ?_) ⟨rfl, rfl, rfl, (iv (by omega)), (iv (by omega)), (iv (by omega)), (iv (by omega)), (iv (by omega)), trivial⟩
          · exact ⟨hs, hN, by omega, hi, hk, hW, hhad, by omega⟩
          · show (script a b).length - (n + 1) < (script a b).length - n; omega
      ·
        have hnil : W (a.drop i) (b.drop k) = [] := by
          apply List.eq_nil_of_length_eq_zero
          rw [List.take_of_length_le (by omega)] at hd
          omega
        obtain ⟨hn1, hn2⟩ := W_eq_nil hnil
        rw [List.drop_eq_nil_iff] at hn1 hn2
        refine CW.exit (hE17 (.exit 0) nofun _ _ (hE16 (.exit 0) nofun _ _ (hX15 _ _ ?_)))
        refine hK13 _ _ ?_
        refine CW.seq (fun K44 hK44 hE44 => ?_)
        refine CW.region ?_
        refine LR.v (Y.move rfl rfl) (Wd.u rfl) rfl rfl ?_
        refine LR.v (Y.move rfl rfl) (Wd.u rfl) rfl rfl ?_
        refine LR.v (Y.len ha2 rfl Try.runUnderlying22 rfl) (Wd.u rfl) rfl rfl ?_
        refine LR.v ((Y.eql rfl rfl rfl).isT (by omega)) (Wd.u rfl) rfl rfl ?_
        refine LR.v (Y.move rfl rfl) (Wd.u rfl) rfl rfl ?_
        refine LR.v (Y.move rfl rfl) (Wd.g rfl rfl rfl) rfl rfl ?_
        refine LR.v (Y.move rfl rfl) (Wd.g rfl rfl rfl) rfl rfl ?_
        refine LR.v (Y.len hb2 rfl Try.runUnderlying22 rfl) (Wd.g rfl rfl rfl) rfl rfl ?_
        refine LR.v ((Y.eql rfl rfl rfl).isT (by omega)) (Wd.g rfl rfl rfl) rfl rfl ?_
        refine LR.v (Y.pick_t rfl rfl rfl) (Wd.u rfl) rfl rfl ?_
        refine LR.v (Y.assign rfl rfl) (Wd.u rfl) rfl rfl ?_
        refine LR.nil ?_
        refine hK44 _ _ ?_
        refine CW.ret (hret .ret (.inr rfl) _ _ _ (res1 rfl rfl) ?_)
        exact ⟨rfl, hs⟩

end Go.Proofs.Ytkofoccjnoenlaa.LinG
