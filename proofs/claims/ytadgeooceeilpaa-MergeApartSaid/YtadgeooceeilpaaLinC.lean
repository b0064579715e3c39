/-
  Contracts of functions of the program
-/
import Derived.Test.YtadgeooceeilpaaLinB
namespace Go.Proofs.Ytadgeooceeilpaa.LinC
open Go.Proofs.Ytadgeooceeilpaa.E Go.RowKit Go.Proofs.Ytadgeooceeilpaa.LinM Go.Proofs.Ytadgeooceeilpaa.LinA Go.Proofs.Ytadgeooceeilpaa.LinB
set_option linter.unusedVariables false
set_option linter.unusedSimpArgs false
set_option linter.unusedSectionVars false

def few (l : List (List UInt8)) (k : Nat) : Nat := l.length + ((l.take k).map (fun s => s.length / 20)).sum
theorem few_succ (l : List (List UInt8)) (k : Nat) (h : k < l.length) : few l (k + 1) = few l k + l[k].length / 20 := by
  unfold few
  rw [List.take_succ_eq_append_getElem h, List.map_append, List.sum_append]
  simp; omega
theorem few_le (l : List (List UInt8)) (k : Nat) (hs : ∀ s ∈ l, s.length ≤ 1048576) (hk : k ≤ l.length) : few l k ≤ l.length + k * 1048576 := by
  induction k with
  | zero => simp [few]
  | succ k ih =>
    rw [few_succ l k (by omega)]
    have := hs l[k] (by simp)
    have := ih (by omega)
    omega
/-- not too many lines -/
def Few (l : List (List UInt8)) : Prop := few l (min l.length 200) < 120
instance (l : List (List UInt8)) : Decidable (Few l) := by unfold Few; infer_instance
theorem Few.len {l : List (List UInt8)} (h : Few l) : l.length < 120 := by unfold Few few at h; omega
def keptE (es : List (Int × Int)) : Int := (es.map (fun e => if e.1 = 0 then e.2 else 0)).sum
theorem keptE_succ (es : List (Int × Int)) (k : Nat) (h : k < es.length) : keptE (es.take (k + 1)) = keptE (es.take k) + if es[k].1 = 0 then es[k].2 else 0 := by
  unfold keptE
  rw [List.take_succ_eq_append_getElem h, List.map_append, List.sum_append]
  simp
theorem tot_take (es : List (Int × Int)) (k : Nat) (h : k < es.length) : tot (es.take (k + 1)) = tot (es.take k) + es[k].2 := by
  unfold tot
  rw [List.take_succ_eq_append_getElem h, List.map_append, List.sum_append]
  simp
theorem tot_take_le (es : List (Int × Int)) (hp : ∀ e ∈ es, 1 ≤ e.2) (k : Nat) : tot (es.take k) ≤ tot es := by
  have h : tot es = tot (es.take k) + tot (es.drop k) := by
    unfold tot; rw [← List.sum_append, ← List.map_append, List.take_append_drop]
  have := (tot_pos (es.drop k) (fun e he => hp e (List.mem_of_mem_drop he))).1
  omega
theorem keptE_bd (es : List (Int × Int)) (hp : ∀ e ∈ es, 1 ≤ e.2) (k : Nat) (h : k ≤ es.length) : 0 ≤ keptE (es.take k) ∧ keptE (es.take k) ≤ tot (es.take k) := by
  induction k with
  | zero => simp [keptE, tot]
  | succ k ih =>
    have := ih (by omega)
    have h1 := hp es[k] (by simp)
    rw [keptE_succ es k (by omega), tot_take es k (by omega)]
    split <;> omega

theorem few_ct (v : Value) (l : List (List UInt8)) (w0 : World) (H0 : Heap)
    (hv : RdT H0 fS 1 v l) (hs : ∀ s ∈ l, s.length ≤ 1048576) (hl : l.length ≤ 1048576) :
    Ct Try.prog w0 29 #[v] H0 (fun r H2 => r = .bool (decide (Few l)) ∧ H2 = H0) := by
  refine Ct.enter (args := [v]) Try.func29 rfl rfl rfl ?_
  intro Q0 hret
  refine CW.seq (fun K1 hK1 hE1 => ?_)
  refine CW.region ?_
  refine LR.v (Y.assign rfl rfl) (Wd.u rfl) rfl rfl ?_
  refine LR.nil ?_
  refine hK1 _ _ ?_
  refine CW.seq (fun K2 hK2 hE2 => ?_)
  refine CW.region ?_
  refine LR.v (Y.move rfl rfl) (Wd.u rfl) rfl rfl ?_
  refine LR.v (Y.len hv rfl Try.runUnderlying22 rfl) (Wd.u rfl) rfl rfl ?_
  refine LR.v (Y.assign rfl rfl) (Wd.u rfl) rfl rfl ?_
  refine LR.nil ?_
  refine hK2 _ _ ?_
  refine CW.seq (fun K3 hK3 hE3 => ?_)
  refine CW.seq (fun K4 hK4 hE4 => ?_)
  refine CW.region ?_
  refine LR.v (Y.assign rfl rfl) (Wd.u rfl) rfl rfl ?_
  refine LR.nil ?_
  refine hK4 _ _ ?_
  refine CW.block (fun K5 hK5 hX5 hE5 => ?_)
  refine CW.loop (fun (k : (Nat)) => [(0, v), (3, .int .i64 (few l k)), (4, .int .i64 k)])
    (fun (k : (Nat)) (H : Heap) => H = H0 ∧ k ≤ l.length ∧ k ≤ 200)
    (fun (k : (Nat)) => 200 - k) 0 ⟨rfl, rfl, rfl, trivial⟩ ?_ ?_
  ·
    exact ⟨rfl, by omega, by omega⟩
  intro k H1 hI1 K6 hN6 hE6
  obtain ⟨rfl, hk1, hk2⟩ := hI1
  have hfl := few_le l k hs hk1
  refine CW.seq (fun K7 hK7 hE7 => ?_)
  refine CW.seq (fun K8 hK8 hE8 => ?_)
  refine CW.region ?_
  refine LR.v (Y.move rfl rfl) (Wd.u rfl) rfl rfl ?_
  refine LR.v (Y.move rfl rfl) (Wd.u rfl) rfl rfl ?_
  refine LR.v (Y.len hv rfl Try.runUnderlying22 rfl) (Wd.u rfl) rfl rfl ?_
  refine LR.v (Y.lss rfl rfl rfl) (Wd.u rfl) rfl rfl ?_
  refine LR.v (Y.move rfl rfl) (Wd.u rfl) rfl rfl ?_
  refine LR.splitp (d := 11) rfl (fun g11 => ?_) (fun g11 => ?_)
  ·
    refine LR.v (Y.move rfl rfl) (Wd.g rfl rfl rfl) rfl rfl ?_
    refine LR.v (Y.lss rfl rfl rfl) (Wd.g rfl rfl rfl) rfl rfl ?_
    refine LR.v (Y.pick_t rfl rfl rfl) (Wd.u rfl) rfl rfl ?_
    refine LR.nil ?_
    refine hK8 _ _ ?_
    refine CW.condp rfl (fun c14 => ?_) (fun c14 => ?_)
    ·
      refine CW.skip ?_
      refine hK7 _ _ ?_
      refine CW.seq (fun K9 hK9 hE9 => ?_)
      refine CW.block (fun K10 hK10 hX10 hE10 => ?_)
      refine CW.region ?_
      have hsk := hs l[k] (by simp)
      refine LR.v (Y.move rfl rfl) (Wd.u rfl) rfl rfl ?_
      refine LR.v (Y.move rfl rfl) (Wd.u rfl) rfl rfl ?_
      refine LR.v (Y.move rfl rfl) (Wd.u rfl) rfl rfl ?_
      refine LR.e (g := fun ad => .pointer (some ad)) (Y.indexAddr hv (_) rfl Try.runUnderlying22 Try.sizeOf9 rfl rfl rfl (by first | omega | (simp; omega) | (simp; done))) (Wd.u rfl) rfl rfl (fun ad20 pt20 => ?_)
      refine LR.v (Y.load1 pt20 rfl Try.isAgg9 rfl) (Wd.u rfl) rfl rfl ?_
      refine LR.v (Y.slen rfl Try.runUnderlying9 rfl) (Wd.u rfl) rfl rfl ?_
      refine LR.v (Y.quoi rfl rfl rfl (by omega)) (Wd.u rfl) rfl rfl ?_
      refine LR.v (Y.addi rfl rfl rfl (by omega)) (Wd.u rfl) rfl rfl ?_
      refine LR.v (Y.assign rfl rfl) (Wd.u rfl) rfl rfl ?_
      refine LR.nil ?_
      refine hK10 _ _ ?_
      refine hK9 _ _ ?_
      refine CW.region ?_
      refine LR.v (Y.move rfl rfl) (Wd.u rfl) rfl rfl ?_
      refine LR.v (Y.addi rfl rfl rfl (by omega)) (Wd.u rfl) rfl rfl ?_
      refine LR.v (Y.assign rfl rfl) (Wd.u rfl) rfl rfl ?_
      refine LR.nil ?_
      have hfs := few_succ l k (by omega)
      refine QN.sub (hN6 (k+1) _ ?_ ?_) ⟨rfl, (iv (by omega)), (iv (by omega)), trivial⟩
      · exact ⟨rfl, by omega, by omega⟩
      · omega
    ·
      refine CW.exit (hE7 (.exit 0) nofun _ _ (hE6 (.exit 0) nofun _ _ (hX5 _ _ ?_)))
      refine hK3 _ _ ?_
      refine CW.seq (fun K11 hK11 hE11 => ?_)
      refine CW.region ?_
      refine LR.v (Y.move rfl rfl) (Wd.u rfl) rfl rfl ?_
      refine LR.v (Y.lss rfl rfl rfl) (Wd.u rfl) rfl rfl ?_
      refine LR.v (Y.assign rfl rfl) (Wd.u rfl) rfl rfl ?_
      refine LR.nil ?_
      refine hK11 _ _ ?_
      refine CW.ret (hret .ret (.inr rfl) _ _ _ (res1 rfl rfl) ?_)
      exact ⟨bdec (by unfold Few; rw [show min l.length 200 = k by omega]; omega), rfl⟩
  ·
    refine LR.gs rfl rfl rfl rfl rfl rfl ?_
    refine LR.gs rfl rfl rfl rfl rfl rfl ?_
    refine LR.v (Y.pick_f rfl rfl rfl) (Wd.u rfl) rfl rfl ?_
    refine LR.nil ?_
    refine hK8 _ _ ?_
    refine CW.cond_f rfl ?_
    refine CW.exit (hE7 (.exit 0) nofun _ _ (hE6 (.exit 0) nofun _ _ (hX5 _ _ ?_)))
    refine hK3 _ _ ?_
    refine CW.seq (fun K12 hK12 hE12 => ?_)
    refine CW.region ?_
    refine LR.v (Y.move rfl rfl) (Wd.u rfl) rfl rfl ?_
    refine LR.v (Y.lss rfl rfl rfl) (Wd.u rfl) rfl rfl ?_
    refine LR.v (Y.assign rfl rfl) (Wd.u rfl) rfl rfl ?_
    refine LR.nil ?_
    refine hK12 _ _ ?_
    refine CW.ret (hret .ret (.inr rfl) _ _ _ (res1 rfl rfl) ?_)
    exact ⟨bdec (by unfold Few; rw [show min l.length 200 = k by omega]; omega), rfl⟩

theorem same_ct (v u : Value) (l m : List (List UInt8)) (w0 : World) (H0 : Heap)
    (hv : RdT H0 fS 1 v l) (hu : RdT H0 fS 1 u m) :
    Ct Try.prog w0 21 #[v, u] H0 (fun r H2 => r = .bool (decide (l = m)) ∧ H2 = H0) := by
  refine Ct.enter (args := [v, u]) Try.func21 rfl rfl rfl ?_
  intro Q0 hret
  refine CW.seq (fun K1 hK1 hE1 => ?_)
  refine CW.region ?_
  refine LR.v (Y.assign rfl rfl) (Wd.u rfl) rfl rfl ?_
  refine LR.nil ?_
  refine hK1 _ _ ?_
  refine CW.seq (fun K2 hK2 hE2 => ?_)
  refine CW.seq (fun K3 hK3 hE3 => ?_)
  refine CW.region ?_
  refine LR.v (Y.move rfl rfl) (Wd.u rfl) rfl rfl ?_
  refine LR.v (Y.len hv rfl Try.runUnderlying22 rfl) (Wd.u rfl) rfl rfl ?_
  refine LR.v (Y.move rfl rfl) (Wd.u rfl) rfl rfl ?_
  refine LR.v (Y.len hu rfl Try.runUnderlying22 rfl) (Wd.u rfl) rfl rfl ?_
  refine LR.v (Y.neq rfl rfl rfl) (Wd.u rfl) rfl rfl ?_
  refine LR.nil ?_
  refine hK3 _ _ ?_
  refine CW.condp rfl (fun c10 => ?_) (fun c10 => ?_)
  ·
    refine CW.seq (fun K4 hK4 hE4 => ?_)
    refine CW.region ?_
    refine LR.v (Y.assign rfl rfl) (Wd.u rfl) rfl rfl ?_
    refine LR.nil ?_
    refine hK4 _ _ ?_
    refine CW.ret (hE2 .ret nofun _ _ (hret .ret (.inr rfl) _ _ _ (res1 rfl rfl) ?_))
    exact ⟨bF (fun e => c10 (by rw [e])), rfl⟩
  ·
    have hlm : l.length = m.length := by omega
    refine CW.skip ?_
    refine hK2 _ _ ?_
    refine CW.seq (fun K5 hK5 hE5 => ?_)
    refine CW.seq (fun K6 hK6 hE6 => ?_)
    refine CW.region ?_
    refine LR.v (Y.assign rfl rfl) (Wd.u rfl) rfl rfl ?_
    refine LR.nil ?_
    refine hK6 _ _ ?_
    refine CW.block (fun K7 hK7 hX7 hE7 => ?_)
    refine CW.loop (fun (k : (Nat)) => [(0, v), (1, u), (5, .int .i64 k)])
      (fun (k : (Nat)) (H : Heap) => H = H0 ∧ k ≤ l.length ∧ l.take k = m.take k)
      (fun (k : (Nat)) => l.length - k) 0 ⟨rfl, rfl, rfl, trivial⟩ ?_ ?_
    ·
      exact ⟨rfl, by omega, by simp⟩
    intro k H1 hI1 K8 hN8 hE8
    obtain ⟨rfl, hk1, hk2⟩ := hI1
    have hlen := hv.len
    refine CW.seq (fun K9 hK9 hE9 => ?_)
    refine CW.seq (fun K10 hK10 hE10 => ?_)
    refine CW.region ?_
    refine LR.v (Y.move rfl rfl) (Wd.u rfl) rfl rfl ?_
    refine LR.v (Y.move rfl rfl) (Wd.u rfl) rfl rfl ?_
    refine LR.v (Y.len hv rfl Try.runUnderlying22 rfl) (Wd.u rfl) rfl rfl ?_
    refine LR.v (Y.lss rfl rfl rfl) (Wd.u rfl) rfl rfl ?_
    refine LR.nil ?_
    refine hK10 _ _ ?_
    refine CW.condp rfl (fun c14 => ?_) (fun c14 => ?_)
    ·
      refine CW.skip ?_
      refine hK9 _ _ ?_
      refine CW.seq (fun K11 hK11 hE11 => ?_)
      refine CW.block (fun K12 hK12 hX12 hE12 => ?_)
      refine CW.seq (fun K13 hK13 hE13 => ?_)
      refine CW.region_draw rfl (by kernel_rfl) ?_
      refine LR.v (Y.move rfl rfl) (Wd.u rfl) rfl rfl ?_
      refine LR.v (Y.move rfl rfl) (Wd.u rfl) rfl rfl ?_
      refine LR.e (g := fun ad => .pointer (some ad)) (Y.indexAddr hv (_) rfl Try.runUnderlying22 Try.sizeOf9 rfl rfl rfl (by first | omega | (simp; omega) | (simp; done))) (Wd.u rfl) rfl rfl (fun ad19 pt19 => ?_)
      refine LR.v (Y.load1 pt19 rfl Try.isAgg9 rfl) (Wd.u rfl) rfl rfl ?_
      refine LR.v (Y.move rfl rfl) (Wd.u rfl) rfl rfl ?_
      refine LR.v (Y.move rfl rfl) (Wd.u rfl) rfl rfl ?_
      refine LR.e (g := fun ad => .pointer (some ad)) (Y.indexAddr hu (_) rfl Try.runUnderlying22 Try.sizeOf9 rfl rfl rfl (by first | omega | (simp; omega) | (simp; done))) (Wd.u rfl) rfl rfl (fun ad23 pt23 => ?_)
      refine LR.v (Y.load1 pt23 rfl Try.isAgg9 rfl) (Wd.u rfl) rfl rfl ?_
      refine LR.v (Y.sneq rfl rfl rfl) (Wd.u rfl) rfl rfl ?_
      refine LR.nil ?_
      refine hK13 _ _ ?_
      refine CW.condp rfl (fun c25 => ?_) (fun c25 => ?_)
      ·
        refine CW.seq (fun K14 hK14 hE14 => ?_)
        refine CW.region ?_
        refine LR.v (Y.assign rfl rfl) (Wd.u rfl) rfl rfl ?_
        refine LR.nil ?_
        refine hK14 _ _ ?_
        refine CW.ret (hE12 .ret nofun (by simp) _ _ (hE11 .ret nofun _ _ (hE8 .ret nofun _ _ (hE7 .ret nofun (by simp) _ _ (hE5 .ret nofun _ _ (hret .ret (.inr rfl) _ _ _ (res1 rfl rfl) ?_))))))
        exact ⟨bF (fun e => c25 (by simp [e])), rfl⟩
      ·
        refine CW.skip ?_
        refine hK12 _ _ ?_
        refine hK11 _ _ ?_
        refine CW.region ?_
        refine LR.v (Y.move rfl rfl) (Wd.u rfl) rfl rfl ?_
        refine LR.v (Y.addi rfl rfl rfl (by omega)) (Wd.u rfl) rfl rfl ?_
        refine LR.v (Y.assign rfl rfl) (Wd.u rfl) rfl rfl ?_
        refine LR.nil ?_
        refine QN.sub (hN8 (k+1) _ ?_ ?_) ⟨rfl, rfl, (iv (by omega)), trivial⟩
        · exact ⟨rfl, by omega, by rw [List.take_succ_eq_append_getElem (show k < l.length by omega), List.take_succ_eq_append_getElem (show k < m.length by omega), hk2, show l[k] = m[k] from Decidable.not_not.1 c25]⟩
        · omega
    ·
      refine CW.exit (hE9 (.exit 0) nofun _ _ (hE8 (.exit 0) nofun _ _ (hX7 _ _ ?_)))
      refine hK5 _ _ ?_
      refine CW.seq (fun K15 hK15 hE15 => ?_)
      refine CW.region ?_
      refine LR.v (Y.assign rfl rfl) (Wd.u rfl) rfl rfl ?_
      refine LR.nil ?_
      refine hK15 _ _ ?_
      refine CW.ret (hret .ret (.inr rfl) _ _ _ (res1 rfl rfl) ?_)
      exact ⟨bT (by rw [List.take_of_length_le (by omega), List.take_of_length_le (by omega)] at hk2; exact hk2), rfl⟩


theorem W_len {α : Type} [DecidableEq α] (a b : List α) : (W a b).length ≤ a.length + b.length := (W_mem _ a b (Nat.le_refl _)).1
theorem runs_bd (ops : List Int) (h : ops.length ≤ 100000) : (∀ e ∈ runs ops, 1 ≤ e.2 ∧ e.2 ≤ 1099511627776) ∧ (runs ops).length ≤ 1099511627776 := by
  have h1 := runs_tot ops
  have h2 := tot_pos (runs ops) (runs_pos ops)
  exact ⟨fun e he => ⟨runs_pos ops e he, by have := h2.2 e he; omega⟩, by omega⟩
/-- how far the walk has come -/
def At2 {α : Type} [DecidableEq α] (X Y : List α) (done : List Int) (i j : Nat) : Prop := i ≤ X.length ∧ j ≤ Y.length ∧ ∃ pre, done = pre ∧ ∀ base, base ++ W X Y = base ++ done ++ W (X.drop i) (Y.drop j)
theorem dropc {α : Type} (a : List α) (i : Nat) (h : i < a.length) : a.drop i = a[i] :: a.drop (i + 1) := List.drop_eq_getElem_cons h
theorem W_keep {α : Type} [DecidableEq α] (X Y : List α) (i j : Nat) (hi : i < X.length) (hj : j < Y.length) (h : X[i] = Y[j]) : W (X.drop i) (Y.drop j) = 0 :: W (X.drop (i + 1)) (Y.drop (j + 1)) := by
  rw [dropc X i hi, dropc Y j hj, h, W_same]
theorem W_delete {α : Type} [DecidableEq α] (X Y : List α) (i j : Nat) (hi : i < X.length) (hne : ∀ hj : j < Y.length, X[i] ≠ Y[j]) (h : lcs (X.drop (i + 1)) (Y.drop j) = lcs (X.drop i) (Y.drop j)) : W (X.drop i) (Y.drop j) = 1 :: W (X.drop (i + 1)) (Y.drop j) := by
  rw [dropc X i hi] at h ⊢
  refine W_del _ _ _ (fun y ys' hy => ?_) h
  have hj : j < Y.length := by
    apply Decidable.byContradiction; intro hc
    rw [List.drop_eq_nil_of_le (by omega)] at hy; cases hy
  rw [dropc Y j hj] at hy
  simp only [List.cons.injEq] at hy
  rw [← hy.1]; exact hne hj
theorem W_insert {α : Type} [DecidableEq α] (X Y : List α) (i j : Nat) (hj : j < Y.length) (h : ∀ hi : i < X.length, X[i] ≠ Y[j] ∧ lcs (X.drop (i + 1)) (Y.drop j) ≠ lcs (X.drop i) (Y.drop j)) : W (X.drop i) (Y.drop j) = 2 :: W (X.drop i) (Y.drop (j + 1)) := by
  rw [dropc Y j hj] at h ⊢
  refine W_ins _ _ _ (fun x xs' hx => ?_)
  have hi : i < X.length := by
    apply Decidable.byContradiction; intro hc
    rw [List.drop_eq_nil_of_le (by omega)] at hx; cases hx
  have h1 := h hi
  rw [dropc X i hi] at hx h1
  simp only [List.cons.injEq] at hx
  obtain ⟨rfl, rfl⟩ := hx
  rw [dropc X i hi]
  exact h1
theorem dd1 {α : Type} (l : List α) (c : Nat) : ((l.drop c).take (l.drop c).length).drop 1 = l.drop (c + 1) := by rw [List.take_length, List.drop_drop]
theorem sim_nums {a b : List (List UInt8)} {m1 m2 : List (List UInt8 × Int)} {xs ys : List Int} (hg : GoodM m2) (h1 : Num m1 a xs a.length) (h2 : Num m2 b ys b.length) (hm : ∀ s n, mget m1 s = some n → mget m2 s = some n) (hx : xs.length = a.length) (hy : ys.length = b.length) : Sim a b xs ys := by
  refine ⟨hx.symm, hy.symm, fun i j p q u v hp hq hu hv => ?_⟩
  have e1 := hm p u (by rw [h1 i p (List.getElem?_eq_some_iff.1 hp).1 hp, hu])
  have e2 : mget m2 q = some v := by rw [h2 j q (List.getElem?_eq_some_iff.1 hq).1 hq, hv]
  constructor
  · rintro rfl; rw [e1] at e2; exact Option.some.inj e2
  · rintro rfl; exact mget_inj hg e1 e2
theorem strip {X Y : List Int} {c : Nat} (h1 : c ≤ X.length) (h2 : c ≤ Y.length) (h : X.take c = Y.take c) : W X Y = List.replicate c 0 ++ W (X.drop c) (Y.drop c) := by
  induction c generalizing X Y with
  | zero => simp
  | succ c ih =>
    match X, Y, h1, h2, h with
    | x :: X, y :: Y, h1, h2, h =>
      simp only [List.take_succ_cons, List.cons.injEq] at h
      obtain ⟨rfl, h⟩ := h
      rw [W_same, ih (by simpa using h1) (by simpa using h2) h]
      simp [List.replicate_succ]

set_option maxRecDepth 5000 in
set_option maxHeartbeats 2000000 in
theorem diff_ct (va vb : Value) (a b : List (List UInt8)) (w0 : World) (H0 : Heap)
    (ha : RdT H0 fS 1 va a) (hb : RdT H0 fS 1 vb b) :
    Ct Try.prog w0 51 #[va, vb] H0 (fun r H2 => ∃ v, r = .tuple #[v, .int .i64 (if 4000 < a.length ∨ 4000 < b.length then 4 else 0)] ∧ Own (fun c => H0.size ≤ c) 80 H2 fE 2 v (if 4000 < a.length ∨ 4000 < b.length then [] else script a b) ∧ Nw H0 H2) := by
  refine Ct.enter (args := [va, vb]) Try.func51 rfl rfl rfl ?_
  intro Q0 hret
  have hal := ha.len
  have hbl := hb.len
  replace ha := ha.lt
  replace hb := hb.lt
  refine CW.seq (fun K1 hK1 hE1 => ?_)
  refine CW.region ?_
  refine LR.v (Y.assign rfl rfl) (Wd.u rfl) rfl rfl ?_
  refine LR.v (Y.assign rfl rfl) (Wd.u rfl) rfl rfl ?_
  refine LR.nil ?_
  refine hK1 _ _ ?_
  refine CW.scope (fun K2 hK2 hE2 => ?_)
  refine CW.seq (fun K3 hK3 hE3 => ?_)
  refine CW.seq (fun K4 hK4 hE4 => ?_)
  refine CW.region ?_
  refine LR.v (Y.move rfl rfl) (Wd.u rfl) rfl rfl ?_
  refine LR.v (Y.len ha rfl Try.runUnderlying22 rfl) (Wd.u rfl) rfl rfl ?_
  refine LR.v (Y.gtr rfl rfl rfl) (Wd.u rfl) rfl rfl ?_
  refine LR.v (Y.move rfl rfl) (Wd.u rfl) rfl rfl ?_
  refine LR.splitp (d := 16) rfl (fun g16 => ?_) (fun g16 => ?_)
  ·
    refine LR.gs rfl rfl rfl rfl rfl rfl ?_
    refine LR.gs rfl rfl rfl rfl rfl rfl ?_
    refine LR.gs rfl rfl rfl rfl rfl rfl ?_
    refine LR.v (Y.pick_t rfl rfl rfl) (Wd.u rfl) rfl rfl ?_
    refine LR.nil ?_
    refine hK4 _ _ ?_
    refine CW.cond_t rfl ?_
    refine CW.seq (fun K5 hK5 hE5 => ?_)
    refine CW.region ?_
    refine LR.v (Y.assign rfl rfl) (Wd.u rfl) rfl rfl ?_
    refine LR.v (Y.assign rfl rfl) (Wd.u rfl) rfl rfl ?_
    refine LR.nil ?_
    refine hK5 _ _ ?_
    refine CW.ret (hE3 .ret nofun _ _ (hE2 .ret nofun nofun _ _ (hret .ret (.inr rfl) _ _ _ (res2 rfl rfl rfl) ?_)))
    exact ⟨_, by rw [if_pos (by omega)], by rw [if_pos (by omega)]; exact Own.nil fE_len fE_one, Nw.refl _⟩
  ·
    refine LR.v (Y.move rfl rfl) (Wd.g rfl rfl rfl) rfl rfl ?_
    refine LR.v (Y.len hb rfl Try.runUnderlying22 rfl) (Wd.g rfl rfl rfl) rfl rfl ?_
    refine LR.v (Y.gtr rfl rfl rfl) (Wd.g rfl rfl rfl) rfl rfl ?_
    refine LR.v (Y.pick_f rfl rfl rfl) (Wd.u rfl) rfl rfl ?_
    refine LR.nil ?_
    refine hK4 _ _ ?_
    refine CW.condp rfl (fun c20 => ?_) (fun c20 => ?_)
    ·
      refine CW.seq (fun K6 hK6 hE6 => ?_)
      refine CW.region ?_
      refine LR.v (Y.assign rfl rfl) (Wd.u rfl) rfl rfl ?_
      refine LR.v (Y.assign rfl rfl) (Wd.u rfl) rfl rfl ?_
      refine LR.nil ?_
      refine hK6 _ _ ?_
      refine CW.ret (hE3 .ret nofun _ _ (hE2 .ret nofun nofun _ _ (hret .ret (.inr rfl) _ _ _ (res2 rfl rfl rfl) ?_)))
      exact ⟨_, by rw [if_pos (by omega)], by rw [if_pos (by omega)]; exact Own.nil fE_len fE_one, Nw.refl _⟩
    ·
      refine CW.skip ?_
      refine hK3 _ _ ?_
      refine CW.seq (fun K7 hK7 hE7 => ?_)
      refine CW.region ?_
      refine LR.z (Z.makeMap (fk := Str) (fv := Value.int .i64) rfl) (Wd.u rfl) rfl rfl (fun v21 H21 r21 => ?_)
      obtain ⟨hm, hs21⟩ := r21
      replace ha := ha.nw hs21
      replace hb := hb.nw hs21
      have hmb : blk v21 = H0.size := by obtain ⟨r, _, _, hv, hG, _⟩ := hm.ex; rw [hv]; exact hG
      have hmlt := hm.blk_lt
      refine LR.v (Y.assign rfl rfl) (Wd.u rfl) rfl rfl ?_
      refine LR.nil ?_
      refine hK7 _ _ ?_
      refine CW.seq (fun K8 hK8 hE8 => ?_)
      refine CW.region ?_
      refine LR.v (Y.move rfl rfl) (Wd.u rfl) rfl rfl ?_
      refine LR.v (Y.move rfl rfl) (Wd.u rfl) rfl rfl ?_
      -- call selvage/lines.numbers
      refine LR.call rfl Try.call59 rfl (Wd.u rfl) rfl rfl (numbers_ct _ _ [] a _ w0 H21 hm ha.any (fun i p h => by simp at h) (by omega) (by simp)) (fun v24 H24 r24 => ?_)
      obtain ⟨m1, xs, hm, hg1, hml1, -, hox, hxl, hnum1, hs24⟩ := r24
      replace ha := ha.up hs24 (fun b _ h1 h2 => by omega)
      replace hb := hb.up hs24 (fun b _ h1 h2 => by omega)
      have hz24 := hs24.size
      refine LR.v (Y.move rfl rfl) (Wd.u rfl) rfl rfl ?_
      refine LR.v (Y.move rfl rfl) (Wd.u rfl) rfl rfl ?_
      -- call selvage/lines.numbers
      refine LR.call rfl Try.call59 rfl (Wd.u rfl) rfl rfl (numbers_ct _ _ m1 b _ w0 H24 hm hb.any hg1 (by omega) (by simp at hml1; omega)) (fun v27 H27 r27 => ?_)
      obtain ⟨m2, ys, hm, hg2, hml2, hmon, hoy, hyl, hnum2, hs27⟩ := r27
      replace hox := hox.up hs27 (fun b _ h1 h2 => by omega)
      have hz27 := hs27.size
      have hsim := sim_nums hg2 hnum1 hnum2 hmon hxl hyl
      have hs := (hs21.trans hs24 (fun _ _ e => e) (fun b hb e => (by omega : False))).trans hs27 (fun _ _ e => e) (fun b hb e => (by omega : False))
      have hx := hox.lt.imp (F' := fun c => c < H27.size) (fun c _ h => h.2)
      have hy := hoy.lt.imp (F' := fun c => c < H27.size) (fun c _ h => h.2)
      have hsz := hs.size
      refine LR.v (Y.assign rfl rfl) (Wd.u rfl) rfl rfl ?_
      refine LR.v (Y.assign rfl rfl) (Wd.u rfl) rfl rfl ?_
      refine LR.nil ?_
      refine hK8 _ _ ?_
      refine CW.seq (fun K9 hK9 hE9 => ?_)
      refine CW.region ?_
      refine LR.v (Y.assign rfl rfl) (Wd.u rfl) rfl rfl ?_
      refine LR.nil ?_
      refine hK9 _ _ ?_
      refine CW.cut (fun (s_ : (Nat) × (Value) × (Value) × (Value)) => match s_ with | (c, vx, vy, vo) => [(7, vx), (8, vy), (9, vo)])
        (fun (s_ : (Nat) × (Value) × (Value) × (Value)) (H : Heap) => match s_ with | (c, vx, vy, vo) => c ≤ xs.length ∧ c ≤ ys.length ∧ xs.take c = ys.take c ∧ Nw H0 H ∧ H27.size ≤ H.size ∧ Rd (fun b => b < H27.size) H fI 1 vx (xs.drop c) ∧ Rd (fun b => b < H27.size) H fI 1 vy (ys.drop c) ∧ Own (fun b => H27.size ≤ b) 80 H fE 2 vo (runs (List.replicate c 0))) (fun K10 hK10 hE10 => ?_) ?_
      ·
        refine CW.block (fun K11 hK11 hX11 hE11 => ?_)
        refine CW.loop (fun (s_ : (Nat) × (Value) × (Value) × (Value)) => match s_ with | (c, vx, vy, vo) => [(7, vx), (8, vy), (9, vo)])
          (fun (s_ : (Nat) × (Value) × (Value) × (Value)) (H : Heap) => match s_ with | (c, vx, vy, vo) => c ≤ xs.length ∧ c ≤ ys.length ∧ xs.take c = ys.take c ∧ Nw H0 H ∧ H27.size ≤ H.size ∧ Rd (fun b => b < H27.size) H fI 1 vx (xs.drop c) ∧ Rd (fun b => b < H27.size) H fI 1 vy (ys.drop c) ∧ Own (fun b => H27.size ≤ b) 80 H fE 2 vo (runs (List.replicate c 0)))
          (fun (s_ : (Nat) × (Value) × (Value) × (Value)) => match s_ with | (c, vx, vy, vo) => xs.length - c) (0, v24, v27, .slice none 0 0) ⟨rfl, rfl, rfl, trivial⟩ ?_ ?_
        ·
          exact ⟨by omega, by omega, by simp, hs, Nat.le_refl _, by simpa using hx, by simpa using hy, Own.nil fE_len fE_one⟩
        rintro ⟨c, vx, vy, vo⟩ H1 hI1 K12 hN12 hE12
        obtain ⟨hc1, hc2, hct, hs, hz1, hx, hy, ho⟩ := hI1
        have hxd : (xs.drop c).length = xs.length - c := List.length_drop
        have hyd : (ys.drop c).length = ys.length - c := List.length_drop
        have hbd := runs_bd (List.replicate c 0) (by simp; omega)
        refine CW.seq (fun K13 hK13 hE13 => ?_)
        refine CW.seq (fun K14 hK14 hE14 => ?_)
        refine CW.region_draw rfl (by kernel_rfl) ?_
        refine LR.v (Y.move rfl rfl) (Wd.u rfl) rfl rfl ?_
        refine LR.v (Y.len hx rfl Try.runUnderlying44 rfl) (Wd.u rfl) rfl rfl ?_
        refine LR.v (Y.gtr rfl rfl rfl) (Wd.u rfl) rfl rfl ?_
        refine LR.v (Y.move rfl rfl) (Wd.u rfl) rfl rfl ?_
        refine LR.splitp (d := 31) rfl (fun g31 => ?_) (fun g31 => ?_)
        ·
          refine LR.v (Y.move rfl rfl) (Wd.g rfl rfl rfl) rfl rfl ?_
          refine LR.v (Y.len hy rfl Try.runUnderlying44 rfl) (Wd.g rfl rfl rfl) rfl rfl ?_
          refine LR.v (Y.gtr rfl rfl rfl) (Wd.g rfl rfl rfl) rfl rfl ?_
          refine LR.v (Y.pick_t rfl rfl rfl) (Wd.u rfl) rfl rfl ?_
          refine LR.v (Y.move rfl rfl) (Wd.u rfl) rfl rfl ?_
          refine LR.splitp (d := 36) rfl (fun g36 => ?_) (fun g36 => ?_)
          ·
            refine LR.v (Y.move rfl rfl) (Wd.g rfl rfl rfl) rfl rfl ?_
            refine LR.e (g := fun ad => .pointer (some ad)) (Y.indexAddr hx (0) rfl Try.runUnderlying44 Try.sizeOf3 rfl rfl (by first | rfl | omega) (by first | omega | (simp; omega) | (simp; done))) (Wd.g rfl rfl rfl) rfl rfl (fun ad38 pt38 => ?_)
            refine LR.v (Y.load1 pt38 rfl Try.isAgg3 rfl) (Wd.g rfl rfl rfl) rfl rfl ?_
            refine LR.v (Y.move rfl rfl) (Wd.g rfl rfl rfl) rfl rfl ?_
            refine LR.e (g := fun ad => .pointer (some ad)) (Y.indexAddr hy (0) rfl Try.runUnderlying44 Try.sizeOf3 rfl rfl (by first | rfl | omega) (by first | omega | (simp; omega) | (simp; done))) (Wd.g rfl rfl rfl) rfl rfl (fun ad41 pt41 => ?_)
            refine LR.v (Y.load1 pt41 rfl Try.isAgg3 rfl) (Wd.g rfl rfl rfl) rfl rfl ?_
            refine LR.v (Y.eql rfl rfl rfl) (Wd.g rfl rfl rfl) rfl rfl ?_
            refine LR.v (Y.pick_t rfl rfl rfl) (Wd.u rfl) rfl rfl ?_
            refine LR.nil ?_
            refine hK14 _ _ ?_
            refine CW.condp rfl (fun c44 => ?_) (fun c44 => ?_)
            ·
              refine CW.skip ?_
              refine hK13 _ _ ?_
              refine CW.block (fun K15 hK15 hX15 hE15 => ?_)
              refine CW.seq (fun K16 hK16 hE16 => ?_)
              refine CW.region ?_
              refine LR.v (Y.move rfl rfl) (Wd.u rfl) rfl rfl ?_
              -- call selvage/lines.add
              refine LR.call rfl Try.call60 rfl (Wd.u rfl) rfl rfl (add_ct _ _ _ _ w0 H1 ho hbd.1 hbd.2) (fun v46 H46 r46 => ?_)
              obtain ⟨ho, hs46⟩ := r46
              replace ho := ho.imp (G' := fun b => H27.size ≤ b) (fun b _ h => h.elim id (fun h => Nat.le_trans hz1 h))
              replace hx := hx.up hs46 (fun b _ h1 h2 => by omega)
              replace hy := hy.up hs46 (fun b _ h1 h2 => by omega)
              replace hs := hs.trans hs46 (fun _ _ e => e) (fun b hb e => (by omega : False))
              have hz46 := hs46.size
              refine LR.v (Y.assign rfl rfl) (Wd.u rfl) rfl rfl ?_
              refine LR.nil ?_
              refine hK16 _ _ ?_
              refine CW.region_draw rfl (by kernel_rfl) ?_
              refine LR.v (Y.move rfl rfl) (Wd.u rfl) rfl rfl ?_
              refine LR.e (g := fun v => v) (Y.slice hx (1) ((xs.drop c).length) rfl Try.runUnderlying44 Try.sizeOf3 rfl (.inr ⟨_, _, _, rfl, rfl, by first | rfl | omega⟩) (.inl ⟨rfl, rfl⟩) (by omega) (by omega)) (Wd.u rfl) rfl rfl (fun v48 rd48 => ?_)
              refine LR.v (Y.move rfl rfl) (Wd.u rfl) rfl rfl ?_
              refine LR.e (g := fun v => v) (Y.slice hy (1) ((ys.drop c).length) rfl Try.runUnderlying44 Try.sizeOf3 rfl (.inr ⟨_, _, _, rfl, rfl, by first | rfl | omega⟩) (.inl ⟨rfl, rfl⟩) (by omega) (by omega)) (Wd.u rfl) rfl rfl (fun v50 rd50 => ?_)
              refine LR.v (Y.assign rfl rfl) (Wd.u rfl) rfl rfl ?_
              refine LR.v (Y.assign rfl rfl) (Wd.u rfl) rfl rfl ?_
              refine LR.nil ?_
              refine hK15 _ _ ?_
              refine QN.sub (hN12 (c + 1, v48, v50, v46) _ ?_ ?_) ⟨rfl, rfl, rfl, trivial⟩
              · refine ⟨by omega, by omega, ?_, hs, by omega, ?_, ?_, ?_⟩
                · rw [List.take_succ_eq_append_getElem (show c < xs.length by omega), List.take_succ_eq_append_getElem (show c < ys.length by omega), hct]
                  have := c44; simp only [List.getElem_drop, Nat.add_zero] at this; rw [this]
                · rw [← dd1]; exact rd48
                · rw [← dd1]; exact rd50
                · rw [List.replicate_succ', runs_snoc]; exact ho
              · show xs.length - (c + 1) < xs.length - c; omega
            ·
              refine CW.exit (hE13 (.exit 0) nofun _ _ (hE12 (.exit 0) nofun _ _ (hX11 _ _ ?_)))
              refine QN.sub (hK10 (c, vx, vy, vo) _ ?_) ⟨rfl, rfl, rfl, trivial⟩
              exact ⟨hc1, hc2, hct, hs, hz1, hx, hy, ho⟩
          ·
            refine LR.gs rfl rfl rfl rfl rfl rfl ?_
            refine LR.gs rfl rfl rfl rfl rfl rfl ?_
            refine LR.gs rfl rfl rfl rfl rfl rfl ?_
            refine LR.gs rfl rfl rfl rfl rfl rfl ?_
            refine LR.gs rfl rfl rfl rfl rfl rfl ?_
            refine LR.gs rfl rfl rfl rfl rfl rfl ?_
            refine LR.gs rfl rfl rfl rfl rfl rfl ?_
            refine LR.v (Y.pick_f rfl rfl rfl) (Wd.u rfl) rfl rfl ?_
            refine LR.nil ?_
            refine hK14 _ _ ?_
            refine CW.cond_f rfl ?_
            refine CW.exit (hE13 (.exit 0) nofun _ _ (hE12 (.exit 0) nofun _ _ (hX11 _ _ ?_)))
            refine QN.sub (hK10 (c, vx, vy, vo) _ ?_) ⟨rfl, rfl, rfl, trivial⟩
            exact ⟨hc1, hc2, hct, hs, hz1, hx, hy, ho⟩
        ·
          refine LR.gs rfl rfl rfl rfl rfl rfl ?_
          refine LR.gs rfl rfl rfl rfl rfl rfl ?_
          refine LR.gs rfl rfl rfl rfl rfl rfl ?_
          refine LR.v (Y.pick_f rfl rfl rfl) (Wd.u rfl) rfl rfl ?_
          refine LR.v (Y.move rfl rfl) (Wd.u rfl) rfl rfl ?_
          refine LR.gs rfl rfl rfl rfl rfl rfl ?_
          refine LR.gs rfl rfl rfl rfl rfl rfl ?_
          refine LR.gs rfl rfl rfl rfl rfl rfl ?_
          refine LR.gs rfl rfl rfl rfl rfl rfl ?_
          refine LR.gs rfl rfl rfl rfl rfl rfl ?_
          refine LR.gs rfl rfl rfl rfl rfl rfl ?_
          refine LR.gs rfl rfl rfl rfl rfl rfl ?_
          refine LR.v (Y.pick_f rfl rfl rfl) (Wd.u rfl) rfl rfl ?_
          refine LR.nil ?_
          refine hK14 _ _ ?_
          refine CW.cond_f rfl ?_
          refine CW.exit (hE13 (.exit 0) nofun _ _ (hE12 (.exit 0) nofun _ _ (hX11 _ _ ?_)))
          refine QN.sub (hK10 (c, vx, vy, vo) _ ?_) ⟨rfl, rfl, rfl, trivial⟩
          exact ⟨hc1, hc2, hct, hs, hz1, hx, hy, ho⟩
      ·
        rintro ⟨c, vx, vy, vo⟩ Hcut0 hIcut0
        obtain ⟨hc1, hc2, hct, hs, hz1, hx, hy, ho⟩ := hIcut0
        have hxd : (xs.drop c).length = xs.length - c := List.length_drop
        have hyd : (ys.drop c).length = ys.length - c := List.length_drop
        have hbd := runs_bd (List.replicate c 0) (by simp; omega)
        refine CW.seq (fun K17 hK17 hE17 => ?_)
        refine CW.region ?_
        refine LR.v (Y.move rfl rfl) (Wd.u rfl) rfl rfl ?_
        refine LR.v (Y.move rfl rfl) (Wd.u rfl) rfl rfl ?_
        -- call selvage/lines.table
        refine LR.call rfl Try.call61 rfl (Wd.u rfl) rfl rfl (table_ct _ _ (xs.drop c) (ys.drop c) w0 Hcut0 hx.any hy.any (by omega) (by omega)) (fun v53 H53 r53 => ?_)
        obtain ⟨rows, hor, hrows, hs53⟩ := r53
        have hz53 := hs53.size
        replace hx := hx.nw hs53
        replace hy := hy.nw hs53
        replace hs := hs.tr hs53
        replace ho := (ho.lt |> fun _ => ho.imp (G' := fun b => H27.size ≤ b ∧ b < Hcut0.size) (fun b hb h => ⟨h, hb⟩)).nw hs53
        replace hrows := hrows.imp (F' := fun b => Hcut0.size < b ∧ b < H53.size) (fun b hb h => ⟨h, hb⟩)
        replace ho := ho.imp (G' := fun b => (H27.size ≤ b ∧ b < Hcut0.size) ∨ H53.size ≤ b) (fun b _ h => .inl h)
        have hrl := hrows.1
        have hzz : Hcut0.size < H53.size := by have := (hor.at (j := 0) (by omega)).2.1; have h2 := (hor.at (j := 0) (by omega)).1; omega
        refine LR.v (Y.assign rfl rfl) (Wd.u rfl) rfl rfl ?_
        refine LR.nil ?_
        refine hK17 _ _ ?_
        refine CW.seq (fun K18 hK18 hE18 => ?_)
        refine CW.region ?_
        refine LR.v (Y.assign rfl rfl) (Wd.u rfl) rfl rfl ?_
        refine LR.v (Y.assign rfl rfl) (Wd.u rfl) rfl rfl ?_
        refine LR.nil ?_
        refine hK18 _ _ ?_
        refine CW.seq (fun K19 hK19 hE19 => ?_)
        refine CW.label ?_
        refine hK19 _ _ ?_
        refine CW.seq (fun K20 hK20 hE20 => ?_)
        refine CW.block (fun K21 hK21 hX21 hE21 => ?_)
        refine CW.loop (fun (s_ : (Nat) × (Nat) × (Value) × (List Int)) => match s_ with | (i, j, vo, done) => [(7, vx), (8, vy), (9, vo), (10, v53), (11, .int .i64 i), (12, .int .i64 j)])
          (fun (s_ : (Nat) × (Nat) × (Value) × (List Int)) (H : Heap) => match s_ with | (i, j, vo, done) => i ≤ (xs.drop c).length ∧ j ≤ (ys.drop c).length ∧ done ++ W ((xs.drop c).drop i) ((ys.drop c).drop j) = W xs ys ∧ Mo (fun b => (H27.size ≤ b ∧ b < Hcut0.size) ∨ H53.size ≤ b) H53 H ∧ Own (fun b => (H27.size ≤ b ∧ b < Hcut0.size) ∨ H53.size ≤ b) 80 H fE 2 vo (runs done))
          (fun (s_ : (Nat) × (Nat) × (Value) × (List Int)) => match s_ with | (i, j, vo, done) => (xs.drop c).length - i + ((ys.drop c).length - j)) (0, 0, vo, List.replicate c 0) ⟨rfl, rfl, rfl, rfl, rfl, rfl, trivial⟩ ?_ ?_
        ·
          exact ⟨by omega, by omega, by rw [List.drop_zero, List.drop_zero, ← strip hc1 hc2 hct], Mo.refl _ _, ho⟩
        rintro ⟨i, j, vo, done⟩ H2 hI2 K22 hN22 hE22
        obtain ⟨hi, hj, hW, hm2, ho⟩ := hI2
        have hx2 := hx.up hm2 (fun b _ h1 h2 => by omega)
        have hy2 := hy.up hm2 (fun b _ h1 h2 => by omega)
        have hor2 := hor.up hm2 (fun b _ h1 h2 => by omega)
        have hrows2 := hrows.up hm2 (fun b _ h1 h2 => by omega)
        have hrow : ∀ q (h : q < rows.length), Rd (fun b => Hcut0.size < b ∧ b < H53.size) H2 (fN .u16) 1 (rows[q]).v (row (xs.drop c) (ys.drop c) q) := fun q h => hrows2.2 q (by omega) _ (List.getElem?_eq_getElem h)
        have hrwl := fun q => row_length (xs.drop c) (ys.drop c) q
        have hrl1 := hrwl i
        have hrl2 := hrwl (i + 1)
        have hdl : done.length ≤ 100000 := by have h1 := congrArg List.length hW; have h2 := W_len xs ys; rw [List.length_append] at h1; omega
        have hbd := runs_bd done hdl
        have hz2 := hm2.size
        refine CW.block (fun K23 hK23 hX23 hE23 => ?_)
        refine CW.block (fun K24 hK24 hX24 hE24 => ?_)
        refine CW.seq (fun K25 hK25 hE25 => ?_)
        refine CW.region_draw rfl (by kernel_rfl) ?_
        refine LR.v (Y.move rfl rfl) (Wd.u rfl) rfl rfl ?_
        refine LR.v (Y.move rfl rfl) (Wd.u rfl) rfl rfl ?_
        refine LR.v (Y.len hx2 rfl Try.runUnderlying44 rfl) (Wd.u rfl) rfl rfl ?_
        refine LR.v (Y.lss rfl rfl rfl) (Wd.u rfl) rfl rfl ?_
        refine LR.v (Y.move rfl rfl) (Wd.u rfl) rfl rfl ?_
        refine LR.splitp (d := 59) rfl (fun g59 => ?_) (fun g59 => ?_)
        ·
          refine LR.v (Y.move rfl rfl) (Wd.g rfl rfl rfl) rfl rfl ?_
          refine LR.v (Y.move rfl rfl) (Wd.g rfl rfl rfl) rfl rfl ?_
          refine LR.v (Y.len hy2 rfl Try.runUnderlying44 rfl) (Wd.g rfl rfl rfl) rfl rfl ?_
          refine LR.v (Y.lss rfl rfl rfl) (Wd.g rfl rfl rfl) rfl rfl ?_
          refine LR.v (Y.pick_t rfl rfl rfl) (Wd.u rfl) rfl rfl ?_
          refine LR.v (Y.move rfl rfl) (Wd.u rfl) rfl rfl ?_
          refine LR.splitp (d := 65) rfl (fun g65 => ?_) (fun g65 => ?_)
          ·
            refine LR.v (Y.move rfl rfl) (Wd.g rfl rfl rfl) rfl rfl ?_
            refine LR.v (Y.move rfl rfl) (Wd.g rfl rfl rfl) rfl rfl ?_
            refine LR.e (g := fun ad => .pointer (some ad)) (Y.indexAddr hx2 (_) rfl Try.runUnderlying44 Try.sizeOf3 rfl rfl rfl (by first | omega | (simp; omega) | (simp; done))) (Wd.g rfl rfl rfl) rfl rfl (fun ad68 pt68 => ?_)
            refine LR.v (Y.load1 pt68 rfl Try.isAgg3 rfl) (Wd.g rfl rfl rfl) rfl rfl ?_
            refine LR.v (Y.move rfl rfl) (Wd.g rfl rfl rfl) rfl rfl ?_
            refine LR.v (Y.move rfl rfl) (Wd.g rfl rfl rfl) rfl rfl ?_
            refine LR.e (g := fun ad => .pointer (some ad)) (Y.indexAddr hy2 (_) rfl Try.runUnderlying44 Try.sizeOf3 rfl rfl rfl (by first | omega | (simp; omega) | (simp; done))) (Wd.g rfl rfl rfl) rfl rfl (fun ad72 pt72 => ?_)
            refine LR.v (Y.load1 pt72 rfl Try.isAgg3 rfl) (Wd.g rfl rfl rfl) rfl rfl ?_
            refine LR.v (Y.eql rfl rfl rfl) (Wd.g rfl rfl rfl) rfl rfl ?_
            refine LR.v (Y.pick_t rfl rfl rfl) (Wd.u rfl) rfl rfl ?_
            refine LR.v (Y.assign rfl rfl) (Wd.u rfl) rfl rfl ?_
            refine LR.nil ?_
            refine hK25 _ _ ?_
            refine CW.condp rfl (fun c54 => ?_) (fun c54 => ?_)
            ·
              refine CW.seq (fun K26 hK26 hE26 => ?_)
              refine CW.region ?_
              refine LR.v (Y.move rfl rfl) (Wd.u rfl) rfl rfl ?_
              -- call selvage/lines.add
              refine LR.call rfl Try.call60 rfl (Wd.u rfl) rfl rfl (add_ct _ _ _ _ w0 H2 ho hbd.1 hbd.2) (fun v77 H77 r77 => ?_)
              obtain ⟨ho2, hs77⟩ := r77
              replace ho2 := ho2.imp (G' := fun b => (H27.size ≤ b ∧ b < Hcut0.size) ∨ H53.size ≤ b) (fun b _ h => h.elim id (fun h => .inr (Nat.le_trans hz2 h)))
              have hm3 := hm2.trans hs77 (fun _ _ e => e) (fun b hb e => e)
              refine LR.v (Y.assign rfl rfl) (Wd.u rfl) rfl rfl ?_
              refine LR.nil ?_
              refine hK26 _ _ ?_
              refine CW.seq (fun K27 hK27 hE27 => ?_)
              refine CW.region ?_
              refine LR.v (Y.move rfl rfl) (Wd.u rfl) rfl rfl ?_
              refine LR.v (Y.addi rfl rfl rfl (by omega)) (Wd.u rfl) rfl rfl ?_
              refine LR.v (Y.assign rfl rfl) (Wd.u rfl) rfl rfl ?_
              refine LR.nil ?_
              refine hK27 _ _ ?_
              refine CW.region ?_
              refine LR.v (Y.move rfl rfl) (Wd.u rfl) rfl rfl ?_
              refine LR.v (Y.addi rfl rfl rfl (by omega)) (Wd.u rfl) rfl rfl ?_
              refine LR.v (Y.assign rfl rfl) (Wd.u rfl) rfl rfl ?_
              refine LR.nil ?_
              refine hK24 _ _ ?_
              refine hK23 _ _ ?_
              refine QN.sub (hN22 (i + 1, j + 1, v77, done ++ [0]) _ ?_ ?_) ⟨rfl, rfl, rfl, rfl, (iv (by omega)), (iv (by omega)), trivial⟩
              · refine ⟨by omega, by omega, ?_, hm3, by rw [runs_snoc]; exact ho2⟩
                rw [← hW, W_keep _ _ i j (by omega) (by omega) c54, List.append_assoc]; rfl
              · show (xs.drop c).length - (i + 1) + ((ys.drop c).length - (j + 1)) < (xs.drop c).length - i + ((ys.drop c).length - j); omega
            ·
              refine CW.seq (fun K28 hK28 hE28 => ?_)
              refine CW.region_draw rfl (by kernel_rfl) ?_
              refine LR.v (Y.move rfl rfl) (Wd.u rfl) rfl rfl ?_
              refine LR.v (Y.move rfl rfl) (Wd.u rfl) rfl rfl ?_
              refine LR.v (Y.len hx2 rfl Try.runUnderlying44 rfl) (Wd.u rfl) rfl rfl ?_
              refine LR.v (Y.lss rfl rfl rfl) (Wd.u rfl) rfl rfl ?_
              refine LR.v (Y.move rfl rfl) (Wd.u rfl) rfl rfl ?_
              refine LR.splitp (d := 87) rfl (fun g87 => ?_) (fun g87 => ?_)
              ·
                first
                | exfalso; omega
                | skip
                  refine LR.v (Y.move rfl rfl) (Wd.g rfl rfl rfl) rfl rfl ?_
                  refine LR.v (Y.move rfl rfl) (Wd.g rfl rfl rfl) rfl rfl ?_
                  refine LR.v (Y.addi rfl rfl rfl (by omega)) (Wd.g rfl rfl rfl) rfl rfl ?_
                  refine LR.v (Y.ownAddr hor2 (i + 1) rfl Try.runUnderlying92 Try.sizeOf95 rfl rfl (by first | rfl | omega) (by first | omega | (simp; omega) | (simp; done))) (Wd.g rfl rfl rfl) rfl rfl ?_
                  refine LR.v (Y.load1 (hor2.pt (j := i + 1) (by first | omega | (simp; omega) | (simp; done))) rfl Try.isAgg95 rfl) (Wd.g rfl rfl rfl) rfl rfl ?_
                  refine LR.v (Y.move rfl rfl) (Wd.g rfl rfl rfl) rfl rfl ?_
                  refine LR.e (g := fun ad => .pointer (some ad)) (Y.indexAddr (hrow (i + 1) (by omega)) (j) rfl Try.runUnderlying95 Try.sizeOf94 rfl rfl (by first | rfl | omega) (by first | omega | (simp; omega) | (simp; done))) (Wd.g rfl rfl rfl) rfl rfl (fun ad94 pt94 => ?_)
                  refine LR.v (Y.load1 pt94 rfl Try.isAgg94 rfl) (Wd.g rfl rfl rfl) rfl rfl ?_
                  refine LR.v (Y.move rfl rfl) (Wd.g rfl rfl rfl) rfl rfl ?_
                  refine LR.v (Y.move rfl rfl) (Wd.g rfl rfl rfl) rfl rfl ?_
                  refine LR.v (Y.ownAddr hor2 (i) rfl Try.runUnderlying92 Try.sizeOf95 rfl rfl (by first | rfl | omega) (by first | omega | (simp; omega) | (simp; done))) (Wd.g rfl rfl rfl) rfl rfl ?_
                  refine LR.v (Y.load1 (hor2.pt (j := i) (by first | omega | (simp; omega) | (simp; done))) rfl Try.isAgg95 rfl) (Wd.g rfl rfl rfl) rfl rfl ?_
                  refine LR.v (Y.move rfl rfl) (Wd.g rfl rfl rfl) rfl rfl ?_
                  refine LR.e (g := fun ad => .pointer (some ad)) (Y.indexAddr (hrow i (by omega)) (j) rfl Try.runUnderlying95 Try.sizeOf94 rfl rfl (by first | rfl | omega) (by first | omega | (simp; omega) | (simp; done))) (Wd.g rfl rfl rfl) rfl rfl (fun ad101 pt101 => ?_)
                  refine LR.v (Y.load1 pt101 rfl Try.isAgg94 rfl) (Wd.g rfl rfl rfl) rfl rfl ?_
                  refine LR.v (Y.eql rfl rfl rfl) (Wd.g rfl rfl rfl) rfl rfl ?_
                  refine LR.v (Y.pick_t rfl rfl rfl) (Wd.u rfl) rfl rfl ?_
                  refine LR.v (Y.assign rfl rfl) (Wd.u rfl) rfl rfl ?_
                  refine LR.nil ?_
                  refine hK28 _ _ ?_
                  refine CW.condp rfl (fun c82 => ?_) (fun c82 => ?_)
                  ·
                    first
                    | exact (c82 (by rw [row_get, row_get, List.drop_eq_nil_of_le (show (ys.drop c).length ≤ j by omega), lcs_nil_right, lcs_nil_right])).elim
                    | skip
                      refine CW.seq (fun K29 hK29 hE29 => ?_)
                      refine CW.region ?_
                      refine LR.v (Y.move rfl rfl) (Wd.u rfl) rfl rfl ?_
                      -- call selvage/lines.add
                      refine LR.call rfl Try.call60 rfl (Wd.u rfl) rfl rfl (add_ct _ _ _ _ w0 H2 ho hbd.1 hbd.2) (fun v106 H106 r106 => ?_)
                      obtain ⟨ho2, hs106⟩ := r106
                      replace ho2 := ho2.imp (G' := fun b => (H27.size ≤ b ∧ b < Hcut0.size) ∨ H53.size ≤ b) (fun b _ h => h.elim id (fun h => .inr (Nat.le_trans hz2 h)))
                      have hm3 := hm2.trans hs106 (fun _ _ e => e) (fun b hb e => e)
                      refine LR.v (Y.assign rfl rfl) (Wd.u rfl) rfl rfl ?_
                      refine LR.nil ?_
                      refine hK29 _ _ ?_
                      refine CW.region ?_
                      refine LR.v (Y.move rfl rfl) (Wd.u rfl) rfl rfl ?_
                      refine LR.v (Y.addi rfl rfl rfl (by omega)) (Wd.u rfl) rfl rfl ?_
                      refine LR.v (Y.assign rfl rfl) (Wd.u rfl) rfl rfl ?_
                      refine LR.nil ?_
                      refine hK24 _ _ ?_
                      refine hK23 _ _ ?_
                      refine QN.sub (hN22 (i + 1, j, v106, done ++ [1]) _ ?_ ?_) ⟨rfl, rfl, rfl, rfl, (iv (by omega)), (iv (by omega)), trivial⟩
                      · refine ⟨by omega, by omega, ?_, hm3, by rw [runs_snoc]; exact ho2⟩
                        rw [← hW, W_delete _ _ i j (by omega) (fun hj => by first | (exfalso; omega) | exact c54) (by have := c82; rw [row_get, row_get] at this; omega), List.append_assoc]; rfl
                      · show (xs.drop c).length - (i + 1) + ((ys.drop c).length - j) < (xs.drop c).length - i + ((ys.drop c).length - j); omega
                  ·
                    first
                    | exact (c82 (by rw [row_get, row_get, List.drop_eq_nil_of_le (show (ys.drop c).length ≤ j by omega), lcs_nil_right, lcs_nil_right])).elim
                    | skip
                      refine CW.seq (fun K30 hK30 hE30 => ?_)
                      refine CW.region ?_
                      refine LR.v (Y.move rfl rfl) (Wd.u rfl) rfl rfl ?_
                      refine LR.v (Y.move rfl rfl) (Wd.u rfl) rfl rfl ?_
                      refine LR.v (Y.len hy2 rfl Try.runUnderlying44 rfl) (Wd.u rfl) rfl rfl ?_
                      refine LR.v (Y.lss rfl rfl rfl) (Wd.u rfl) rfl rfl ?_
                      refine LR.v (Y.assign rfl rfl) (Wd.u rfl) rfl rfl ?_
                      refine LR.nil ?_
                      refine hK30 _ _ ?_
                      refine CW.condp rfl (fun c109 => ?_) (fun c109 => ?_)
                      ·
                        first
                        | exfalso; omega
                        | skip
                          refine CW.seq (fun K31 hK31 hE31 => ?_)
                          refine CW.region ?_
                          refine LR.v (Y.move rfl rfl) (Wd.u rfl) rfl rfl ?_
                          -- call selvage/lines.add
                          refine LR.call rfl Try.call60 rfl (Wd.u rfl) rfl rfl (add_ct _ _ _ _ w0 H2 ho hbd.1 hbd.2) (fun v115 H115 r115 => ?_)
                          obtain ⟨ho2, hs115⟩ := r115
                          replace ho2 := ho2.imp (G' := fun b => (H27.size ≤ b ∧ b < Hcut0.size) ∨ H53.size ≤ b) (fun b _ h => h.elim id (fun h => .inr (Nat.le_trans hz2 h)))
                          have hm3 := hm2.trans hs115 (fun _ _ e => e) (fun b hb e => e)
                          refine LR.v (Y.assign rfl rfl) (Wd.u rfl) rfl rfl ?_
                          refine LR.nil ?_
                          refine hK31 _ _ ?_
                          refine CW.region ?_
                          refine LR.v (Y.move rfl rfl) (Wd.u rfl) rfl rfl ?_
                          refine LR.v (Y.addi rfl rfl rfl (by omega)) (Wd.u rfl) rfl rfl ?_
                          refine LR.v (Y.assign rfl rfl) (Wd.u rfl) rfl rfl ?_
                          refine LR.nil ?_
                          refine hK24 _ _ ?_
                          refine hK23 _ _ ?_
                          refine QN.sub (hN22 (i, j + 1, v115, done ++ [2]) _ ?_ ?_) ⟨rfl, rfl, rfl, rfl, (iv (by omega)), (iv (by omega)), trivial⟩
                          · refine ⟨by omega, by omega, ?_, hm3, by rw [runs_snoc]; exact ho2⟩
                            rw [← hW, W_insert _ _ i j (by omega) (fun hi => by first | (exfalso; omega) | exact ⟨c54, fun e => c82 (by rw [row_get, row_get, e])⟩), List.append_assoc]; rfl
                          · show (xs.drop c).length - i + ((ys.drop c).length - (j + 1)) < (xs.drop c).length - i + ((ys.drop c).length - j); omega
                      ·
                        first
                        | exfalso; omega
                        | skip
                          refine CW.exit (hE24 (.exit 2) nofun (by simp) _ _ (hE23 (.exit 2) nofun (by simp) _ _ (hE22 (.exit 2) nofun _ _ (hX21 _ _ ?_))))
                          refine hK20 _ _ ?_
                          refine CW.seq (fun K32 hK32 hE32 => ?_)
                          refine CW.region ?_
                          refine LR.v (Y.move rfl rfl) (Wd.u rfl) rfl rfl ?_
                          refine LR.v (Y.assign rfl rfl) (Wd.u rfl) rfl rfl ?_
                          refine LR.v (Y.assign rfl rfl) (Wd.u rfl) rfl rfl ?_
                          refine LR.nil ?_
                          refine hK32 _ _ ?_
                          refine CW.ret (hE2 .ret nofun nofun _ _ (hret .ret (.inr rfl) _ _ _ (res2 rfl rfl rfl) ?_))
                          refine ⟨_, by rw [if_neg (by omega)], ?_, hs.trans hm2 (fun _ _ e => e) (fun b hb e => (by omega : False))⟩
                          rw [if_neg (by omega)]
                          have hd : done = W xs ys := by rw [← hW, List.drop_eq_nil_of_le (show (xs.drop c).length ≤ i by omega), List.drop_eq_nil_of_le (show (ys.drop c).length ≤ j by omega), W_nil, List.append_nil]
                          unfold script
                          rw [hsim.W _ _ _ _ _ (Nat.le_refl _), ← hd]
                          exact ho.imp (fun b _ h => by omega)
              ·
                first
                | exfalso; omega
                | skip
                  refine LR.gs rfl rfl rfl rfl rfl rfl ?_
                  refine LR.gs rfl rfl rfl rfl rfl rfl ?_
                  refine LR.gs rfl rfl rfl rfl rfl rfl ?_
                  refine LR.gs rfl rfl rfl rfl rfl rfl ?_
                  refine LR.gs rfl rfl rfl rfl rfl rfl ?_
                  refine LR.gs rfl rfl rfl rfl rfl rfl ?_
                  refine LR.gs rfl rfl rfl rfl rfl rfl ?_
                  refine LR.gs rfl rfl rfl rfl rfl rfl ?_
                  refine LR.gs rfl rfl rfl rfl rfl rfl ?_
                  refine LR.gs rfl rfl rfl rfl rfl rfl ?_
                  refine LR.gs rfl rfl rfl rfl rfl rfl ?_
                  refine LR.gs rfl rfl rfl rfl rfl rfl ?_
                  refine LR.gs rfl rfl rfl rfl rfl rfl ?_
                  refine LR.gs rfl rfl rfl rfl rfl rfl ?_
                  refine LR.gs rfl rfl rfl rfl rfl rfl ?_
                  refine LR.gs rfl rfl rfl rfl rfl rfl ?_
                  refine LR.v (Y.pick_f rfl rfl rfl) (Wd.u rfl) rfl rfl ?_
                  refine LR.v (Y.assign rfl rfl) (Wd.u rfl) rfl rfl ?_
                  refine LR.nil ?_
                  refine hK28 _ _ ?_
                  refine CW.cond_f rfl ?_
                  refine CW.seq (fun K33 hK33 hE33 => ?_)
                  refine CW.region ?_
                  refine LR.v (Y.move rfl rfl) (Wd.u rfl) rfl rfl ?_
                  refine LR.v (Y.move rfl rfl) (Wd.u rfl) rfl rfl ?_
                  refine LR.v (Y.len hy2 rfl Try.runUnderlying44 rfl) (Wd.u rfl) rfl rfl ?_
                  refine LR.v (Y.lss rfl rfl rfl) (Wd.u rfl) rfl rfl ?_
                  refine LR.v (Y.assign rfl rfl) (Wd.u rfl) rfl rfl ?_
                  refine LR.nil ?_
                  refine hK33 _ _ ?_
                  refine CW.condp rfl (fun c109 => ?_) (fun c109 => ?_)
                  ·
                    first
                    | exfalso; omega
                    | skip
                      refine CW.seq (fun K34 hK34 hE34 => ?_)
                      refine CW.region ?_
                      refine LR.v (Y.move rfl rfl) (Wd.u rfl) rfl rfl ?_
                      -- call selvage/lines.add
                      refine LR.call rfl Try.call60 rfl (Wd.u rfl) rfl rfl (add_ct _ _ _ _ w0 H2 ho hbd.1 hbd.2) (fun v115 H115 r115 => ?_)
                      obtain ⟨ho2, hs115⟩ := r115
                      replace ho2 := ho2.imp (G' := fun b => (H27.size ≤ b ∧ b < Hcut0.size) ∨ H53.size ≤ b) (fun b _ h => h.elim id (fun h => .inr (Nat.le_trans hz2 h)))
                      have hm3 := hm2.trans hs115 (fun _ _ e => e) (fun b hb e => e)
                      refine LR.v (Y.assign rfl rfl) (Wd.u rfl) rfl rfl ?_
                      refine LR.nil ?_
                      refine hK34 _ _ ?_
                      refine CW.region ?_
                      refine LR.v (Y.move rfl rfl) (Wd.u rfl) rfl rfl ?_
                      refine LR.v (Y.addi rfl rfl rfl (by omega)) (Wd.u rfl) rfl rfl ?_
                      refine LR.v (Y.assign rfl rfl) (Wd.u rfl) rfl rfl ?_
                      refine LR.nil ?_
                      refine hK24 _ _ ?_
                      refine hK23 _ _ ?_
                      refine QN.sub (hN22 (i, j + 1, v115, done ++ [2]) _ ?_ ?_) ⟨rfl, rfl, rfl, rfl, (iv (by omega)), (iv (by omega)), trivial⟩
                      · refine ⟨by omega, by omega, ?_, hm3, by rw [runs_snoc]; exact ho2⟩
                        rw [← hW, W_insert _ _ i j (by omega) (fun hi => by first | (exfalso; omega) | exact ⟨c54, fun e => c82 (by rw [row_get, row_get, e])⟩), List.append_assoc]; rfl
                      · show (xs.drop c).length - i + ((ys.drop c).length - (j + 1)) < (xs.drop c).length - i + ((ys.drop c).length - j); omega
                  ·
                    first
                    | exfalso; omega
                    | skip
                      refine CW.exit (hE24 (.exit 2) nofun (by simp) _ _ (hE23 (.exit 2) nofun (by simp) _ _ (hE22 (.exit 2) nofun _ _ (hX21 _ _ ?_))))
                      refine hK20 _ _ ?_
                      refine CW.seq (fun K35 hK35 hE35 => ?_)
                      refine CW.region ?_
                      refine LR.v (Y.move rfl rfl) (Wd.u rfl) rfl rfl ?_
                      refine LR.v (Y.assign rfl rfl) (Wd.u rfl) rfl rfl ?_
                      refine LR.v (Y.assign rfl rfl) (Wd.u rfl) rfl rfl ?_
                      refine LR.nil ?_
                      refine hK35 _ _ ?_
                      refine CW.ret (hE2 .ret nofun nofun _ _ (hret .ret (.inr rfl) _ _ _ (res2 rfl rfl rfl) ?_))
                      refine ⟨_, by rw [if_neg (by omega)], ?_, hs.trans hm2 (fun _ _ e => e) (fun b hb e => (by omega : False))⟩
                      rw [if_neg (by omega)]
                      have hd : done = W xs ys := by rw [← hW, List.drop_eq_nil_of_le (show (xs.drop c).length ≤ i by omega), List.drop_eq_nil_of_le (show (ys.drop c).length ≤ j by omega), W_nil, List.append_nil]
                      unfold script
                      rw [hsim.W _ _ _ _ _ (Nat.le_refl _), ← hd]
                      exact ho.imp (fun b _ h => by omega)
          ·
            refine LR.gs rfl rfl rfl rfl rfl rfl ?_
            refine LR.gs rfl rfl rfl rfl rfl rfl ?_
            refine LR.gs rfl rfl rfl rfl rfl rfl ?_
            refine LR.gs rfl rfl rfl rfl rfl rfl ?_
            refine LR.gs rfl rfl rfl rfl rfl rfl ?_
            refine LR.gs rfl rfl rfl rfl rfl rfl ?_
            refine LR.gs rfl rfl rfl rfl rfl rfl ?_
            refine LR.gs rfl rfl rfl rfl rfl rfl ?_
            refine LR.gs rfl rfl rfl rfl rfl rfl ?_
            refine LR.v (Y.pick_f rfl rfl rfl) (Wd.u rfl) rfl rfl ?_
            refine LR.v (Y.assign rfl rfl) (Wd.u rfl) rfl rfl ?_
            refine LR.nil ?_
            refine hK25 _ _ ?_
            refine CW.cond_f rfl ?_
            refine CW.seq (fun K36 hK36 hE36 => ?_)
            refine CW.region_draw rfl (by kernel_rfl) ?_
            refine LR.v (Y.move rfl rfl) (Wd.u rfl) rfl rfl ?_
            refine LR.v (Y.move rfl rfl) (Wd.u rfl) rfl rfl ?_
            refine LR.v (Y.len hx2 rfl Try.runUnderlying44 rfl) (Wd.u rfl) rfl rfl ?_
            refine LR.v (Y.lss rfl rfl rfl) (Wd.u rfl) rfl rfl ?_
            refine LR.v (Y.move rfl rfl) (Wd.u rfl) rfl rfl ?_
            refine LR.splitp (d := 87) rfl (fun g87 => ?_) (fun g87 => ?_)
            ·
              first
              | exfalso; omega
              | skip
                refine LR.v (Y.move rfl rfl) (Wd.g rfl rfl rfl) rfl rfl ?_
                refine LR.v (Y.move rfl rfl) (Wd.g rfl rfl rfl) rfl rfl ?_
                refine LR.v (Y.addi rfl rfl rfl (by omega)) (Wd.g rfl rfl rfl) rfl rfl ?_
                refine LR.v (Y.ownAddr hor2 (i + 1) rfl Try.runUnderlying92 Try.sizeOf95 rfl rfl (by first | rfl | omega) (by first | omega | (simp; omega) | (simp; done))) (Wd.g rfl rfl rfl) rfl rfl ?_
                refine LR.v (Y.load1 (hor2.pt (j := i + 1) (by first | omega | (simp; omega) | (simp; done))) rfl Try.isAgg95 rfl) (Wd.g rfl rfl rfl) rfl rfl ?_
                refine LR.v (Y.move rfl rfl) (Wd.g rfl rfl rfl) rfl rfl ?_
                refine LR.e (g := fun ad => .pointer (some ad)) (Y.indexAddr (hrow (i + 1) (by omega)) (j) rfl Try.runUnderlying95 Try.sizeOf94 rfl rfl (by first | rfl | omega) (by first | omega | (simp; omega) | (simp; done))) (Wd.g rfl rfl rfl) rfl rfl (fun ad94 pt94 => ?_)
                refine LR.v (Y.load1 pt94 rfl Try.isAgg94 rfl) (Wd.g rfl rfl rfl) rfl rfl ?_
                refine LR.v (Y.move rfl rfl) (Wd.g rfl rfl rfl) rfl rfl ?_
                refine LR.v (Y.move rfl rfl) (Wd.g rfl rfl rfl) rfl rfl ?_
                refine LR.v (Y.ownAddr hor2 (i) rfl Try.runUnderlying92 Try.sizeOf95 rfl rfl (by first | rfl | omega) (by first | omega | (simp; omega) | (simp; done))) (Wd.g rfl rfl rfl) rfl rfl ?_
                refine LR.v (Y.load1 (hor2.pt (j := i) (by first | omega | (simp; omega) | (simp; done))) rfl Try.isAgg95 rfl) (Wd.g rfl rfl rfl) rfl rfl ?_
                refine LR.v (Y.move rfl rfl) (Wd.g rfl rfl rfl) rfl rfl ?_
                refine LR.e (g := fun ad => .pointer (some ad)) (Y.indexAddr (hrow i (by omega)) (j) rfl Try.runUnderlying95 Try.sizeOf94 rfl rfl (by first | rfl | omega) (by first | omega | (simp; omega) | (simp; done))) (Wd.g rfl rfl rfl) rfl rfl (fun ad101 pt101 => ?_)
                refine LR.v (Y.load1 pt101 rfl Try.isAgg94 rfl) (Wd.g rfl rfl rfl) rfl rfl ?_
                refine LR.v (Y.eql rfl rfl rfl) (Wd.g rfl rfl rfl) rfl rfl ?_
                refine LR.v (Y.pick_t rfl rfl rfl) (Wd.u rfl) rfl rfl ?_
                refine LR.v (Y.assign rfl rfl) (Wd.u rfl) rfl rfl ?_
                refine LR.nil ?_
                refine hK36 _ _ ?_
                refine CW.condp rfl (fun c82 => ?_) (fun c82 => ?_)
                ·
                  first
                  | exact (c82 (by rw [row_get, row_get, List.drop_eq_nil_of_le (show (ys.drop c).length ≤ j by omega), lcs_nil_right, lcs_nil_right])).elim
                  | skip
                    refine CW.seq (fun K37 hK37 hE37 => ?_)
                    refine CW.region ?_
                    refine LR.v (Y.move rfl rfl) (Wd.u rfl) rfl rfl ?_
                    -- call selvage/lines.add
                    refine LR.call rfl Try.call60 rfl (Wd.u rfl) rfl rfl (add_ct _ _ _ _ w0 H2 ho hbd.1 hbd.2) (fun v106 H106 r106 => ?_)
                    obtain ⟨ho2, hs106⟩ := r106
                    replace ho2 := ho2.imp (G' := fun b => (H27.size ≤ b ∧ b < Hcut0.size) ∨ H53.size ≤ b) (fun b _ h => h.elim id (fun h => .inr (Nat.le_trans hz2 h)))
                    have hm3 := hm2.trans hs106 (fun _ _ e => e) (fun b hb e => e)
                    refine LR.v (Y.assign rfl rfl) (Wd.u rfl) rfl rfl ?_
                    refine LR.nil ?_
                    refine hK37 _ _ ?_
                    refine CW.region ?_
                    refine LR.v (Y.move rfl rfl) (Wd.u rfl) rfl rfl ?_
                    refine LR.v (Y.addi rfl rfl rfl (by omega)) (Wd.u rfl) rfl rfl ?_
                    refine LR.v (Y.assign rfl rfl) (Wd.u rfl) rfl rfl ?_
                    refine LR.nil ?_
                    refine hK24 _ _ ?_
                    refine hK23 _ _ ?_
                    refine QN.sub (hN22 (i + 1, j, v106, done ++ [1]) _ ?_ ?_) ⟨rfl, rfl, rfl, rfl, (iv (by omega)), (iv (by omega)), trivial⟩
                    · refine ⟨by omega, by omega, ?_, hm3, by rw [runs_snoc]; exact ho2⟩
                      rw [← hW, W_delete _ _ i j (by omega) (fun hj => by first | (exfalso; omega) | exact c54) (by have := c82; rw [row_get, row_get] at this; omega), List.append_assoc]; rfl
                    · show (xs.drop c).length - (i + 1) + ((ys.drop c).length - j) < (xs.drop c).length - i + ((ys.drop c).length - j); omega
                ·
                  first
                  | exact (c82 (by rw [row_get, row_get, List.drop_eq_nil_of_le (show (ys.drop c).length ≤ j by omega), lcs_nil_right, lcs_nil_right])).elim
                  | skip
                    refine CW.seq (fun K38 hK38 hE38 => ?_)
                    refine CW.region ?_
                    refine LR.v (Y.move rfl rfl) (Wd.u rfl) rfl rfl ?_
                    refine LR.v (Y.move rfl rfl) (Wd.u rfl) rfl rfl ?_
                    refine LR.v (Y.len hy2 rfl Try.runUnderlying44 rfl) (Wd.u rfl) rfl rfl ?_
                    refine LR.v (Y.lss rfl rfl rfl) (Wd.u rfl) rfl rfl ?_
                    refine LR.v (Y.assign rfl rfl) (Wd.u rfl) rfl rfl ?_
                    refine LR.nil ?_
                    refine hK38 _ _ ?_
                    refine CW.condp rfl (fun c109 => ?_) (fun c109 => ?_)
                    ·
                      first
                      | exfalso; omega
                      | skip
                        refine CW.seq (fun K39 hK39 hE39 => ?_)
                        refine CW.region ?_
                        refine LR.v (Y.move rfl rfl) (Wd.u rfl) rfl rfl ?_
                        -- call selvage/lines.add
                        refine LR.call rfl Try.call60 rfl (Wd.u rfl) rfl rfl (add_ct _ _ _ _ w0 H2 ho hbd.1 hbd.2) (fun v115 H115 r115 => ?_)
                        obtain ⟨ho2, hs115⟩ := r115
                        replace ho2 := ho2.imp (G' := fun b => (H27.size ≤ b ∧ b < Hcut0.size) ∨ H53.size ≤ b) (fun b _ h => h.elim id (fun h => .inr (Nat.le_trans hz2 h)))
                        have hm3 := hm2.trans hs115 (fun _ _ e => e) (fun b hb e => e)
                        refine LR.v (Y.assign rfl rfl) (Wd.u rfl) rfl rfl ?_
                        refine LR.nil ?_
                        refine hK39 _ _ ?_
                        refine CW.region ?_
                        refine LR.v (Y.move rfl rfl) (Wd.u rfl) rfl rfl ?_
                        refine LR.v (Y.addi rfl rfl rfl (by omega)) (Wd.u rfl) rfl rfl ?_
                        refine LR.v (Y.assign rfl rfl) (Wd.u rfl) rfl rfl ?_
                        refine LR.nil ?_
                        refine hK24 _ _ ?_
                        refine hK23 _ _ ?_
                        refine QN.sub (hN22 (i, j + 1, v115, done ++ [2]) _ ?_ ?_) ⟨rfl, rfl, rfl, rfl, (iv (by omega)), (iv (by omega)), trivial⟩
                        · refine ⟨by omega, by omega, ?_, hm3, by rw [runs_snoc]; exact ho2⟩
                          rw [← hW, W_insert _ _ i j (by omega) (fun hi => by first | (exfalso; omega) | exact ⟨c54, fun e => c82 (by rw [row_get, row_get, e])⟩), List.append_assoc]; rfl
                        · show (xs.drop c).length - i + ((ys.drop c).length - (j + 1)) < (xs.drop c).length - i + ((ys.drop c).length - j); omega
                    ·
                      first
                      | exfalso; omega
                      | skip
                        refine CW.exit (hE24 (.exit 2) nofun (by simp) _ _ (hE23 (.exit 2) nofun (by simp) _ _ (hE22 (.exit 2) nofun _ _ (hX21 _ _ ?_))))
                        refine hK20 _ _ ?_
                        refine CW.seq (fun K40 hK40 hE40 => ?_)
                        refine CW.region ?_
                        refine LR.v (Y.move rfl rfl) (Wd.u rfl) rfl rfl ?_
                        refine LR.v (Y.assign rfl rfl) (Wd.u rfl) rfl rfl ?_
                        refine LR.v (Y.assign rfl rfl) (Wd.u rfl) rfl rfl ?_
                        refine LR.nil ?_
                        refine hK40 _ _ ?_
                        refine CW.ret (hE2 .ret nofun nofun _ _ (hret .ret (.inr rfl) _ _ _ (res2 rfl rfl rfl) ?_))
                        refine ⟨_, by rw [if_neg (by omega)], ?_, hs.trans hm2 (fun _ _ e => e) (fun b hb e => (by omega : False))⟩
                        rw [if_neg (by omega)]
                        have hd : done = W xs ys := by rw [← hW, List.drop_eq_nil_of_le (show (xs.drop c).length ≤ i by omega), List.drop_eq_nil_of_le (show (ys.drop c).length ≤ j by omega), W_nil, List.append_nil]
                        unfold script
                        rw [hsim.W _ _ _ _ _ (Nat.le_refl _), ← hd]
                        exact ho.imp (fun b _ h => by omega)
            ·
              first
              | exfalso; omega
              | skip
                refine LR.gs rfl rfl rfl rfl rfl rfl ?_
                refine LR.gs rfl rfl rfl rfl rfl rfl ?_
                refine LR.gs rfl rfl rfl rfl rfl rfl ?_
                refine LR.gs rfl rfl rfl rfl rfl rfl ?_
                refine LR.gs rfl rfl rfl rfl rfl rfl ?_
                refine LR.gs rfl rfl rfl rfl rfl rfl ?_
                refine LR.gs rfl rfl rfl rfl rfl rfl ?_
                refine LR.gs rfl rfl rfl rfl rfl rfl ?_
                refine LR.gs rfl rfl rfl rfl rfl rfl ?_
                refine LR.gs rfl rfl rfl rfl rfl rfl ?_
                refine LR.gs rfl rfl rfl rfl rfl rfl ?_
                refine LR.gs rfl rfl rfl rfl rfl rfl ?_
                refine LR.gs rfl rfl rfl rfl rfl rfl ?_
                refine LR.gs rfl rfl rfl rfl rfl rfl ?_
                refine LR.gs rfl rfl rfl rfl rfl rfl ?_
                refine LR.gs rfl rfl rfl rfl rfl rfl ?_
                refine LR.v (Y.pick_f rfl rfl rfl) (Wd.u rfl) rfl rfl ?_
                refine LR.v (Y.assign rfl rfl) (Wd.u rfl) rfl rfl ?_
                refine LR.nil ?_
                refine hK36 _ _ ?_
                refine CW.cond_f rfl ?_
                refine CW.seq (fun K41 hK41 hE41 => ?_)
                refine CW.region ?_
                refine LR.v (Y.move rfl rfl) (Wd.u rfl) rfl rfl ?_
                refine LR.v (Y.move rfl rfl) (Wd.u rfl) rfl rfl ?_
                refine LR.v (Y.len hy2 rfl Try.runUnderlying44 rfl) (Wd.u rfl) rfl rfl ?_
                refine LR.v (Y.lss rfl rfl rfl) (Wd.u rfl) rfl rfl ?_
                refine LR.v (Y.assign rfl rfl) (Wd.u rfl) rfl rfl ?_
                refine LR.nil ?_
                refine hK41 _ _ ?_
                refine CW.condp rfl (fun c109 => ?_) (fun c109 => ?_)
                ·
                  first
                  | exfalso; omega
                  | skip
                    refine CW.seq (fun K42 hK42 hE42 => ?_)
                    refine CW.region ?_
                    refine LR.v (Y.move rfl rfl) (Wd.u rfl) rfl rfl ?_
                    -- call selvage/lines.add
                    refine LR.call rfl Try.call60 rfl (Wd.u rfl) rfl rfl (add_ct _ _ _ _ w0 H2 ho hbd.1 hbd.2) (fun v115 H115 r115 => ?_)
                    obtain ⟨ho2, hs115⟩ := r115
                    replace ho2 := ho2.imp (G' := fun b => (H27.size ≤ b ∧ b < Hcut0.size) ∨ H53.size ≤ b) (fun b _ h => h.elim id (fun h => .inr (Nat.le_trans hz2 h)))
                    have hm3 := hm2.trans hs115 (fun _ _ e => e) (fun b hb e => e)
                    refine LR.v (Y.assign rfl rfl) (Wd.u rfl) rfl rfl ?_
                    refine LR.nil ?_
                    refine hK42 _ _ ?_
                    refine CW.region ?_
                    refine LR.v (Y.move rfl rfl) (Wd.u rfl) rfl rfl ?_
                    refine LR.v (Y.addi rfl rfl rfl (by omega)) (Wd.u rfl) rfl rfl ?_
                    refine LR.v (Y.assign rfl rfl) (Wd.u rfl) rfl rfl ?_
                    refine LR.nil ?_
                    refine hK24 _ _ ?_
                    refine hK23 _ _ ?_
                    refine QN.sub (hN22 (i, j + 1, v115, done ++ [2]) _ ?_ ?_) ⟨rfl, rfl, rfl, rfl, (iv (by omega)), (iv (by omega)), trivial⟩
                    · refine ⟨by omega, by omega, ?_, hm3, by rw [runs_snoc]; exact ho2⟩
                      rw [← hW, W_insert _ _ i j (by omega) (fun hi => by first | (exfalso; omega) | exact ⟨c54, fun e => c82 (by rw [row_get, row_get, e])⟩), List.append_assoc]; rfl
                    · show (xs.drop c).length - i + ((ys.drop c).length - (j + 1)) < (xs.drop c).length - i + ((ys.drop c).length - j); omega
                ·
                  first
                  | exfalso; omega
                  | skip
                    refine CW.exit (hE24 (.exit 2) nofun (by simp) _ _ (hE23 (.exit 2) nofun (by simp) _ _ (hE22 (.exit 2) nofun _ _ (hX21 _ _ ?_))))
                    refine hK20 _ _ ?_
                    refine CW.seq (fun K43 hK43 hE43 => ?_)
                    refine CW.region ?_
                    refine LR.v (Y.move rfl rfl) (Wd.u rfl) rfl rfl ?_
                    refine LR.v (Y.assign rfl rfl) (Wd.u rfl) rfl rfl ?_
                    refine LR.v (Y.assign rfl rfl) (Wd.u rfl) rfl rfl ?_
                    refine LR.nil ?_
                    refine hK43 _ _ ?_
                    refine CW.ret (hE2 .ret nofun nofun _ _ (hret .ret (.inr rfl) _ _ _ (res2 rfl rfl rfl) ?_))
                    refine ⟨_, by rw [if_neg (by omega)], ?_, hs.trans hm2 (fun _ _ e => e) (fun b hb e => (by omega : False))⟩
                    rw [if_neg (by omega)]
                    have hd : done = W xs ys := by rw [← hW, List.drop_eq_nil_of_le (show (xs.drop c).length ≤ i by omega), List.drop_eq_nil_of_le (show (ys.drop c).length ≤ j by omega), W_nil, List.append_nil]
                    unfold script
                    rw [hsim.W _ _ _ _ _ (Nat.le_refl _), ← hd]
                    exact ho.imp (fun b _ h => by omega)
        ·
          refine LR.gs rfl rfl rfl rfl rfl rfl ?_
          refine LR.gs rfl rfl rfl rfl rfl rfl ?_
          refine LR.gs rfl rfl rfl rfl rfl rfl ?_
          refine LR.gs rfl rfl rfl rfl rfl rfl ?_
          refine LR.v (Y.pick_f rfl rfl rfl) (Wd.u rfl) rfl rfl ?_
          refine LR.v (Y.move rfl rfl) (Wd.u rfl) rfl rfl ?_
          refine LR.gs rfl rfl rfl rfl rfl rfl ?_
          refine LR.gs rfl rfl rfl rfl rfl rfl ?_
          refine LR.gs rfl rfl rfl rfl rfl rfl ?_
          refine LR.gs rfl rfl rfl rfl rfl rfl ?_
          refine LR.gs rfl rfl rfl rfl rfl rfl ?_
          refine LR.gs rfl rfl rfl rfl rfl rfl ?_
          refine LR.gs rfl rfl rfl rfl rfl rfl ?_
          refine LR.gs rfl rfl rfl rfl rfl rfl ?_
          refine LR.gs rfl rfl rfl rfl rfl rfl ?_
          refine LR.v (Y.pick_f rfl rfl rfl) (Wd.u rfl) rfl rfl ?_
          refine LR.v (Y.assign rfl rfl) (Wd.u rfl) rfl rfl ?_
          refine LR.nil ?_
          refine hK25 _ _ ?_
          refine CW.cond_f rfl ?_
          refine CW.seq (fun K44 hK44 hE44 => ?_)
          refine CW.region_draw rfl (by kernel_rfl) ?_
          refine LR.v (Y.move rfl rfl) (Wd.u rfl) rfl rfl ?_
          refine LR.v (Y.move rfl rfl) (Wd.u rfl) rfl rfl ?_
          refine LR.v (Y.len hx2 rfl Try.runUnderlying44 rfl) (Wd.u rfl) rfl rfl ?_
          refine LR.v (Y.lss rfl rfl rfl) (Wd.u rfl) rfl rfl ?_
          refine LR.v (Y.move rfl rfl) (Wd.u rfl) rfl rfl ?_
          refine LR.splitp (d := 87) rfl (fun g87 => ?_) (fun g87 => ?_)
          ·
            first
            | exfalso; omega
            | skip
              refine LR.v (Y.move rfl rfl) (Wd.g rfl rfl rfl) rfl rfl ?_
              refine LR.v (Y.move rfl rfl) (Wd.g rfl rfl rfl) rfl rfl ?_
              refine LR.v (Y.addi rfl rfl rfl (by omega)) (Wd.g rfl rfl rfl) rfl rfl ?_
              refine LR.v (Y.ownAddr hor2 (i + 1) rfl Try.runUnderlying92 Try.sizeOf95 rfl rfl (by first | rfl | omega) (by first | omega | (simp; omega) | (simp; done))) (Wd.g rfl rfl rfl) rfl rfl ?_
              refine LR.v (Y.load1 (hor2.pt (j := i + 1) (by first | omega | (simp; omega) | (simp; done))) rfl Try.isAgg95 rfl) (Wd.g rfl rfl rfl) rfl rfl ?_
              refine LR.v (Y.move rfl rfl) (Wd.g rfl rfl rfl) rfl rfl ?_
              refine LR.e (g := fun ad => .pointer (some ad)) (Y.indexAddr (hrow (i + 1) (by omega)) (j) rfl Try.runUnderlying95 Try.sizeOf94 rfl rfl (by first | rfl | omega) (by first | omega | (simp; omega) | (simp; done))) (Wd.g rfl rfl rfl) rfl rfl (fun ad94 pt94 => ?_)
              refine LR.v (Y.load1 pt94 rfl Try.isAgg94 rfl) (Wd.g rfl rfl rfl) rfl rfl ?_
              refine LR.v (Y.move rfl rfl) (Wd.g rfl rfl rfl) rfl rfl ?_
              refine LR.v (Y.move rfl rfl) (Wd.g rfl rfl rfl) rfl rfl ?_
              refine LR.v (Y.ownAddr hor2 (i) rfl Try.runUnderlying92 Try.sizeOf95 rfl rfl (by first | rfl | omega) (by first | omega | (simp; omega) | (simp; done))) (Wd.g rfl rfl rfl) rfl rfl ?_
              refine LR.v (Y.load1 (hor2.pt (j := i) (by first | omega | (simp; omega) | (simp; done))) rfl Try.isAgg95 rfl) (Wd.g rfl rfl rfl) rfl rfl ?_
              refine LR.v (Y.move rfl rfl) (Wd.g rfl rfl rfl) rfl rfl ?_
              refine LR.e (g := fun ad => .pointer (some ad)) (Y.indexAddr (hrow i (by omega)) (j) rfl Try.runUnderlying95 Try.sizeOf94 rfl rfl (by first | rfl | omega) (by first | omega | (simp; omega) | (simp; done))) (Wd.g rfl rfl rfl) rfl rfl (fun ad101 pt101 => ?_)
              refine LR.v (Y.load1 pt101 rfl Try.isAgg94 rfl) (Wd.g rfl rfl rfl) rfl rfl ?_
              refine LR.v (Y.eql rfl rfl rfl) (Wd.g rfl rfl rfl) rfl rfl ?_
              refine LR.v (Y.pick_t rfl rfl rfl) (Wd.u rfl) rfl rfl ?_
              refine LR.v (Y.assign rfl rfl) (Wd.u rfl) rfl rfl ?_
              refine LR.nil ?_
              refine hK44 _ _ ?_
              refine CW.condp rfl (fun c82 => ?_) (fun c82 => ?_)
              ·
                first
                | exact (c82 (by rw [row_get, row_get, List.drop_eq_nil_of_le (show (ys.drop c).length ≤ j by omega), lcs_nil_right, lcs_nil_right])).elim
                | skip
                  refine CW.seq (fun K45 hK45 hE45 => ?_)
                  refine CW.region ?_
                  refine LR.v (Y.move rfl rfl) (Wd.u rfl) rfl rfl ?_
                  -- call selvage/lines.add
                  refine LR.call rfl Try.call60 rfl (Wd.u rfl) rfl rfl (add_ct _ _ _ _ w0 H2 ho hbd.1 hbd.2) (fun v106 H106 r106 => ?_)
                  obtain ⟨ho2, hs106⟩ := r106
                  replace ho2 := ho2.imp (G' := fun b => (H27.size ≤ b ∧ b < Hcut0.size) ∨ H53.size ≤ b) (fun b _ h => h.elim id (fun h => .inr (Nat.le_trans hz2 h)))
                  have hm3 := hm2.trans hs106 (fun _ _ e => e) (fun b hb e => e)
                  refine LR.v (Y.assign rfl rfl) (Wd.u rfl) rfl rfl ?_
                  refine LR.nil ?_
                  refine hK45 _ _ ?_
                  refine CW.region ?_
                  refine LR.v (Y.move rfl rfl) (Wd.u rfl) rfl rfl ?_
                  refine LR.v (Y.addi rfl rfl rfl (by omega)) (Wd.u rfl) rfl rfl ?_
                  refine LR.v (Y.assign rfl rfl) (Wd.u rfl) rfl rfl ?_
                  refine LR.nil ?_
                  refine hK24 _ _ ?_
                  refine hK23 _ _ ?_
                  refine QN.sub (hN22 (i + 1, j, v106, done ++ [1]) _ ?_ ?_) ⟨rfl, rfl, rfl, rfl, (iv (by omega)), (iv (by omega)), trivial⟩
                  · refine ⟨by omega, by omega, ?_, hm3, by rw [runs_snoc]; exact ho2⟩
                    rw [← hW, W_delete _ _ i j (by omega) (fun hj => by first | (exfalso; omega) | exact c54) (by have := c82; rw [row_get, row_get] at this; omega), List.append_assoc]; rfl
                  · show (xs.drop c).length - (i + 1) + ((ys.drop c).length - j) < (xs.drop c).length - i + ((ys.drop c).length - j); omega
              ·
                first
                | exact (c82 (by rw [row_get, row_get, List.drop_eq_nil_of_le (show (ys.drop c).length ≤ j by omega), lcs_nil_right, lcs_nil_right])).elim
                | skip
                  refine CW.seq (fun K46 hK46 hE46 => ?_)
                  refine CW.region ?_
                  refine LR.v (Y.move rfl rfl) (Wd.u rfl) rfl rfl ?_
                  refine LR.v (Y.move rfl rfl) (Wd.u rfl) rfl rfl ?_
                  refine LR.v (Y.len hy2 rfl Try.runUnderlying44 rfl) (Wd.u rfl) rfl rfl ?_
                  refine LR.v (Y.lss rfl rfl rfl) (Wd.u rfl) rfl rfl ?_
                  refine LR.v (Y.assign rfl rfl) (Wd.u rfl) rfl rfl ?_
                  refine LR.nil ?_
                  refine hK46 _ _ ?_
                  refine CW.condp rfl (fun c109 => ?_) (fun c109 => ?_)
                  ·
                    first
                    | exfalso; omega
                    | skip
                      refine CW.seq (fun K47 hK47 hE47 => ?_)
                      refine CW.region ?_
                      refine LR.v (Y.move rfl rfl) (Wd.u rfl) rfl rfl ?_
                      -- call selvage/lines.add
                      refine LR.call rfl Try.call60 rfl (Wd.u rfl) rfl rfl (add_ct _ _ _ _ w0 H2 ho hbd.1 hbd.2) (fun v115 H115 r115 => ?_)
                      obtain ⟨ho2, hs115⟩ := r115
                      replace ho2 := ho2.imp (G' := fun b => (H27.size ≤ b ∧ b < Hcut0.size) ∨ H53.size ≤ b) (fun b _ h => h.elim id (fun h => .inr (Nat.le_trans hz2 h)))
                      have hm3 := hm2.trans hs115 (fun _ _ e => e) (fun b hb e => e)
                      refine LR.v (Y.assign rfl rfl) (Wd.u rfl) rfl rfl ?_
                      refine LR.nil ?_
                      refine hK47 _ _ ?_
                      refine CW.region ?_
                      refine LR.v (Y.move rfl rfl) (Wd.u rfl) rfl rfl ?_
                      refine LR.v (Y.addi rfl rfl rfl (by omega)) (Wd.u rfl) rfl rfl ?_
                      refine LR.v (Y.assign rfl rfl) (Wd.u rfl) rfl rfl ?_
                      refine LR.nil ?_
                      refine hK24 _ _ ?_
                      refine hK23 _ _ ?_
                      refine QN.sub (hN22 (i, j + 1, v115, done ++ [2]) _ ?_ ?_) ⟨rfl, rfl, rfl, rfl, (iv (by omega)), (iv (by omega)), trivial⟩
                      · refine ⟨by omega, by omega, ?_, hm3, by rw [runs_snoc]; exact ho2⟩
                        rw [← hW, W_insert _ _ i j (by omega) (fun hi => by first | (exfalso; omega) | exact ⟨c54, fun e => c82 (by rw [row_get, row_get, e])⟩), List.append_assoc]; rfl
                      · show (xs.drop c).length - i + ((ys.drop c).length - (j + 1)) < (xs.drop c).length - i + ((ys.drop c).length - j); omega
                  ·
                    first
                    | exfalso; omega
                    | skip
                      refine CW.exit (hE24 (.exit 2) nofun (by simp) _ _ (hE23 (.exit 2) nofun (by simp) _ _ (hE22 (.exit 2) nofun _ _ (hX21 _ _ ?_))))
                      refine hK20 _ _ ?_
                      refine CW.seq (fun K48 hK48 hE48 => ?_)
                      refine CW.region ?_
                      refine LR.v (Y.move rfl rfl) (Wd.u rfl) rfl rfl ?_
                      refine LR.v (Y.assign rfl rfl) (Wd.u rfl) rfl rfl ?_
                      refine LR.v (Y.assign rfl rfl) (Wd.u rfl) rfl rfl ?_
                      refine LR.nil ?_
                      refine hK48 _ _ ?_
                      refine CW.ret (hE2 .ret nofun nofun _ _ (hret .ret (.inr rfl) _ _ _ (res2 rfl rfl rfl) ?_))
                      refine ⟨_, by rw [if_neg (by omega)], ?_, hs.trans hm2 (fun _ _ e => e) (fun b hb e => (by omega : False))⟩
                      rw [if_neg (by omega)]
                      have hd : done = W xs ys := by rw [← hW, List.drop_eq_nil_of_le (show (xs.drop c).length ≤ i by omega), List.drop_eq_nil_of_le (show (ys.drop c).length ≤ j by omega), W_nil, List.append_nil]
                      unfold script
                      rw [hsim.W _ _ _ _ _ (Nat.le_refl _), ← hd]
                      exact ho.imp (fun b _ h => by omega)
          ·
            first
            | exfalso; omega
            | skip
              refine LR.gs rfl rfl rfl rfl rfl rfl ?_
              refine LR.gs rfl rfl rfl rfl rfl rfl ?_
              refine LR.gs rfl rfl rfl rfl rfl rfl ?_
              refine LR.gs rfl rfl rfl rfl rfl rfl ?_
              refine LR.gs rfl rfl rfl rfl rfl rfl ?_
              refine LR.gs rfl rfl rfl rfl rfl rfl ?_
              refine LR.gs rfl rfl rfl rfl rfl rfl ?_
              refine LR.gs rfl rfl rfl rfl rfl rfl ?_
              refine LR.gs rfl rfl rfl rfl rfl rfl ?_
              refine LR.gs rfl rfl rfl rfl rfl rfl ?_
              refine LR.gs rfl rfl rfl rfl rfl rfl ?_
              refine LR.gs rfl rfl rfl rfl rfl rfl ?_
              refine LR.gs rfl rfl rfl rfl rfl rfl ?_
              refine LR.gs rfl rfl rfl rfl rfl rfl ?_
              refine LR.gs rfl rfl rfl rfl rfl rfl ?_
              refine LR.gs rfl rfl rfl rfl rfl rfl ?_
              refine LR.v (Y.pick_f rfl rfl rfl) (Wd.u rfl) rfl rfl ?_
              refine LR.v (Y.assign rfl rfl) (Wd.u rfl) rfl rfl ?_
              refine LR.nil ?_
              refine hK44 _ _ ?_
              refine CW.cond_f rfl ?_
              refine CW.seq (fun K49 hK49 hE49 => ?_)
              refine CW.region ?_
              refine LR.v (Y.move rfl rfl) (Wd.u rfl) rfl rfl ?_
              refine LR.v (Y.move rfl rfl) (Wd.u rfl) rfl rfl ?_
              refine LR.v (Y.len hy2 rfl Try.runUnderlying44 rfl) (Wd.u rfl) rfl rfl ?_
              refine LR.v (Y.lss rfl rfl rfl) (Wd.u rfl) rfl rfl ?_
              refine LR.v (Y.assign rfl rfl) (Wd.u rfl) rfl rfl ?_
              refine LR.nil ?_
              refine hK49 _ _ ?_
              refine CW.condp rfl (fun c109 => ?_) (fun c109 => ?_)
              ·
                first
                | exfalso; omega
                | skip
                  refine CW.seq (fun K50 hK50 hE50 => ?_)
                  refine CW.region ?_
                  refine LR.v (Y.move rfl rfl) (Wd.u rfl) rfl rfl ?_
                  -- call selvage/lines.add
                  refine LR.call rfl Try.call60 rfl (Wd.u rfl) rfl rfl (add_ct _ _ _ _ w0 H2 ho hbd.1 hbd.2) (fun v115 H115 r115 => ?_)
                  obtain ⟨ho2, hs115⟩ := r115
                  replace ho2 := ho2.imp (G' := fun b => (H27.size ≤ b ∧ b < Hcut0.size) ∨ H53.size ≤ b) (fun b _ h => h.elim id (fun h => .inr (Nat.le_trans hz2 h)))
                  have hm3 := hm2.trans hs115 (fun _ _ e => e) (fun b hb e => e)
                  refine LR.v (Y.assign rfl rfl) (Wd.u rfl) rfl rfl ?_
                  refine LR.nil ?_
                  refine hK50 _ _ ?_
                  refine CW.region ?_
                  refine LR.v (Y.move rfl rfl) (Wd.u rfl) rfl rfl ?_
                  refine LR.v (Y.addi rfl rfl rfl (by omega)) (Wd.u rfl) rfl rfl ?_
                  refine LR.v (Y.assign rfl rfl) (Wd.u rfl) rfl rfl ?_
                  refine LR.nil ?_
                  refine hK24 _ _ ?_
                  refine hK23 _ _ ?_
                  refine QN.sub (hN22 (i, j + 1, v115, done ++ [2]) _ ?_ ?_) ⟨rfl, rfl, rfl, rfl, (iv (by omega)), (iv (by omega)), trivial⟩
                  · refine ⟨by omega, by omega, ?_, hm3, by rw [runs_snoc]; exact ho2⟩
                    rw [← hW, W_insert _ _ i j (by omega) (fun hi => by first | (exfalso; omega) | exact ⟨c54, fun e => c82 (by rw [row_get, row_get, e])⟩), List.append_assoc]; rfl
                  · show (xs.drop c).length - i + ((ys.drop c).length - (j + 1)) < (xs.drop c).length - i + ((ys.drop c).length - j); omega
              ·
                first
                | exfalso; omega
                | skip
                  refine CW.exit (hE24 (.exit 2) nofun (by simp) _ _ (hE23 (.exit 2) nofun (by simp) _ _ (hE22 (.exit 2) nofun _ _ (hX21 _ _ ?_))))
                  refine hK20 _ _ ?_
                  refine CW.seq (fun K51 hK51 hE51 => ?_)
                  refine CW.region ?_
                  refine LR.v (Y.move rfl rfl) (Wd.u rfl) rfl rfl ?_
                  refine LR.v (Y.assign rfl rfl) (Wd.u rfl) rfl rfl ?_
                  refine LR.v (Y.assign rfl rfl) (Wd.u rfl) rfl rfl ?_
                  refine LR.nil ?_
                  refine hK51 _ _ ?_
                  refine CW.ret (hE2 .ret nofun nofun _ _ (hret .ret (.inr rfl) _ _ _ (res2 rfl rfl rfl) ?_))
                  refine ⟨_, by rw [if_neg (by omega)], ?_, hs.trans hm2 (fun _ _ e => e) (fun b hb e => (by omega : False))⟩
                  rw [if_neg (by omega)]
                  have hd : done = W xs ys := by rw [← hW, List.drop_eq_nil_of_le (show (xs.drop c).length ≤ i by omega), List.drop_eq_nil_of_le (show (ys.drop c).length ≤ j by omega), W_nil, List.append_nil]
                  unfold script
                  rw [hsim.W _ _ _ _ _ (Nat.le_refl _), ← hd]
                  exact ho.imp (fun b _ h => by omega)

end Go.Proofs.Ytadgeooceeilpaa.LinC
