/-
  Contracts of functions of the program
-/
import Derived.Test.YtegfnfhdgbcjbaaLinB
namespace Go.Proofs.Ytegfnfhdgbcjbaa.LinC
open Go.Proofs.Ytegfnfhdgbcjbaa.E Go.RowKit Go.Proofs.Ytegfnfhdgbcjbaa.LinM Go.Proofs.Ytegfnfhdgbcjbaa.LinA Go.Proofs.Ytegfnfhdgbcjbaa.LinB
set_option linter.unusedVariables false
set_option linter.unusedSimpArgs false
set_option linter.unusedSectionVars false

def few (l : List (List UInt8)) (k : Nat) : Nat := l.length + ((l.take k).map (fun s => s.length / 20)).sum
theorem few_succ (l : List (List UInt8)) (k : Nat) (h : k < l.length) : few l (k + 1) = few l k + l[k].length / 20 := by
  unfold few
  rw [List.take_succ_eq_append_getElem h, List.map_append, List.sum_append]
  simp; omega
theorem few_le (l : List (List UInt8)) (k : Nat) (hs : ∀ s ∈ l, s.length ≤ 1048576) (hk : k ≤ l.length) : few l k ≤ l.length + k * 1048576 := by
  induction k with
  | zero => simp [few]
  | succ k ih =>
    rw [few_succ l k (by omega)]
    have := hs l[k] (by simp)
    have := ih (by omega)
    omega
/-- not too many lines -/
def Few (l : List (List UInt8)) : Prop := few l (min l.length 200) < 120
instance (l : List (List UInt8)) : Decidable (Few l) := by unfold Few; infer_instance
theorem Few.len {l : List (List UInt8)} (h : Few l) : l.length < 120 := by unfold Few few at h; omega
def keptE (es : List (Int × Int)) : Int := (es.map (fun e => if e.1 = 0 then e.2 else 0)).sum
theorem keptE_succ (es : List (Int × Int)) (k : Nat) (h : k < es.length) : keptE (es.take (k + 1)) = keptE (es.take k) + if es[k].1 = 0 then es[k].2 else 0 := by
  unfold keptE
  rw [List.take_succ_eq_append_getElem h, List.map_append, List.sum_append]
  simp
theorem tot_take (es : List (Int × Int)) (k : Nat) (h : k < es.length) : tot (es.take (k + 1)) = tot (es.take k) + es[k].2 := by
  unfold tot
  rw [List.take_succ_eq_append_getElem h, List.map_append, List.sum_append]
  simp
theorem tot_take_le (es : List (Int × Int)) (hp : ∀ e ∈ es, 1 ≤ e.2) (k : Nat) : tot (es.take k) ≤ tot es := by
  have h : tot es = tot (es.take k) + tot (es.drop k) := by
    unfold tot; rw [← List.sum_append, ← List.map_append, List.take_append_drop]
  have := (tot_pos (es.drop k) (fun e he => hp e (List.mem_of_mem_drop he))).1
  omega
theorem keptE_bd (es : List (Int × Int)) (hp : ∀ e ∈ es, 1 ≤ e.2) (k : Nat) (h : k ≤ es.length) : 0 ≤ keptE (es.take k) ∧ keptE (es.take k) ≤ tot (es.take k) := by
  induction k with
  | zero => simp [keptE, tot]
  | succ k ih =>
    have := ih (by omega)
    have h1 := hp es[k] (by simp)
    rw [keptE_succ es k (by omega), tot_take es k (by omega)]
    split <;> omega

theorem few_ct (v : Value) (l : List (List UInt8)) (w0 : World) (H0 : Heap)
    (hv : RdT H0 fS 1 v l) (hs : ∀ s ∈ l, s.length ≤ 1048576) (hl : l.length ≤ 1048576) :
    Ct Try.prog w0 10 #[v] H0 (fun r H2 => r = .bool (decide (Few l)) ∧ H2 = H0) := by
  refine Ct.enter (args := [v]) Try.func10 rfl rfl rfl ?_
  intro Q0 hret
  refine CW.seq (fun K1 hK1 hE1 => ?_)
  refine CW.region ?_
  refine LR.v (Y.assign rfl rfl) (Wd.u rfl) rfl rfl ?_
  refine LR.nil ?_
  refine hK1 _ _ ?_
  refine CW.seq (fun K2 hK2 hE2 => ?_)
  refine CW.region ?_
  refine LR.v (Y.move rfl rfl) (Wd.u rfl) rfl rfl ?_
  refine LR.v (Y.len hv rfl Try.runUnderlying32 rfl) (Wd.u rfl) rfl rfl ?_
  refine LR.v (Y.assign rfl rfl) (Wd.u rfl) rfl rfl ?_
  refine LR.nil ?_
  refine hK2 _ _ ?_
  refine CW.seq (fun K3 hK3 hE3 => ?_)
  refine CW.seq (fun K4 hK4 hE4 => ?_)
  refine CW.region ?_
  refine LR.v (Y.assign rfl rfl) (Wd.u rfl) rfl rfl ?_
  refine LR.nil ?_
  refine hK4 _ _ ?_
  refine CW.block (fun K5 hK5 hX5 hE5 => ?_)
  refine CW.loop (fun (k : (Nat)) => [(0, v), (3, .int .i64 (few l k)), (4, .int .i64 k)])
    (fun (k : (Nat)) (H : Heap) => H = H0 ∧ k ≤ l.length ∧ k ≤ 200)
    (fun (k : (Nat)) => 200 - k) 0 ⟨rfl, rfl, rfl, trivial⟩ ?_ ?_
  ·
    exact ⟨rfl, by omega, by omega⟩
  intro k H1 hI1 K6 hN6 hE6
  obtain ⟨rfl, hk1, hk2⟩ := hI1
  have hfl := few_le l k hs hk1
  refine CW.seq (fun K7 hK7 hE7 => ?_)
  refine CW.seq (fun K8 hK8 hE8 => ?_)
  refine CW.region ?_
  refine LR.v (Y.move rfl rfl) (Wd.u rfl) rfl rfl ?_
  refine LR.v (Y.move rfl rfl) (Wd.u rfl) rfl rfl ?_
  refine LR.v (Y.len hv rfl Try.runUnderlying32 rfl) (Wd.u rfl) rfl rfl ?_
  refine LR.v (Y.lss rfl rfl rfl) (Wd.u rfl) rfl rfl ?_
  refine LR.v (Y.move rfl rfl) (Wd.u rfl) rfl rfl ?_
  refine LR.splitp (d := 11) rfl (fun g11 => ?_) (fun g11 => ?_)
  ·
    refine LR.v (Y.move rfl rfl) (Wd.g rfl rfl rfl) rfl rfl ?_
    refine LR.v (Y.lss rfl rfl rfl) (Wd.g rfl rfl rfl) rfl rfl ?_
    refine LR.v (Y.pick_t rfl rfl rfl) (Wd.u rfl) rfl rfl ?_
    refine LR.nil ?_
    refine hK8 _ _ ?_
    refine CW.condp rfl (fun c14 => ?_) (fun c14 => ?_)
    ·
      refine CW.skip ?_
      refine hK7 _ _ ?_
      refine CW.seq (fun K9 hK9 hE9 => ?_)
      refine CW.block (fun K10 hK10 hX10 hE10 => ?_)
      refine CW.region ?_
      have hsk := hs l[k] (by simp)
      refine LR.v (Y.move rfl rfl) (Wd.u rfl) rfl rfl ?_
      refine LR.v (Y.move rfl rfl) (Wd.u rfl) rfl rfl ?_
      refine LR.v (Y.move rfl rfl) (Wd.u rfl) rfl rfl ?_
      refine LR.e (g := fun ad => .pointer (some ad)) (Y.indexAddr hv (_) rfl Try.runUnderlying32 Try.sizeOf9 rfl rfl rfl (by first | omega | (simp; omega) | (simp; done))) (Wd.u rfl) rfl rfl (fun ad20 pt20 => ?_)
      refine LR.v (Y.load1 pt20 rfl Try.isAgg9 rfl) (Wd.u rfl) rfl rfl ?_
      refine LR.v (Y.slen rfl Try.runUnderlying9 rfl) (Wd.u rfl) rfl rfl ?_
      refine LR.v (Y.quoi rfl rfl rfl (by omega)) (Wd.u rfl) rfl rfl ?_
      refine LR.v (Y.addi rfl rfl rfl (by omega)) (Wd.u rfl) rfl rfl ?_
      refine LR.v (Y.assign rfl rfl) (Wd.u rfl) rfl rfl ?_
      refine LR.nil ?_
      refine hK10 _ _ ?_
      refine hK9 _ _ ?_
      refine CW.region ?_
      refine LR.v (Y.move rfl rfl) (Wd.u rfl) rfl rfl ?_
      refine LR.v (Y.addi rfl rfl rfl (by omega)) (Wd.u rfl) rfl rfl ?_
      refine LR.v (Y.assign rfl rfl) (Wd.u rfl) rfl rfl ?_
      refine LR.nil ?_
      have hfs := few_succ l k (by omega)
      refine QN.sub (hN6 (k+1) _ ?_ ?_) ⟨rfl, (iv (by omega)), (iv (by omega)), trivial⟩
      · exact ⟨rfl, by omega, by omega⟩
      · omega
    ·
      refine CW.exit (hE7 (.exit 0) nofun _ _ (hE6 (.exit 0) nofun _ _ (hX5 _ _ ?_)))
      refine hK3 _ _ ?_
      refine CW.seq (fun K11 hK11 hE11 => ?_)
      refine CW.region ?_
      refine LR.v (Y.move rfl rfl) (Wd.u rfl) rfl rfl ?_
      refine LR.v (Y.lss rfl rfl rfl) (Wd.u rfl) rfl rfl ?_
      refine LR.v (Y.assign rfl rfl) (Wd.u rfl) rfl rfl ?_
      refine LR.nil ?_
      refine hK11 _ _ ?_
      refine CW.ret (hret .ret (.inr rfl) _ _ _ (res1 rfl rfl) ?_)
      exact ⟨bdec (by unfold Few; rw [show min l.length 200 = k by omega]; omega), rfl⟩
  ·
    refine LR.gs rfl rfl rfl rfl rfl rfl ?_
    refine LR.gs rfl rfl rfl rfl rfl rfl ?_
    refine LR.v (Y.pick_f rfl rfl rfl) (Wd.u rfl) rfl rfl ?_
    refine LR.nil ?_
    refine hK8 _ _ ?_
    refine CW.cond_f rfl ?_
    refine CW.exit (hE7 (.exit 0) nofun _ _ (hE6 (.exit 0) nofun _ _ (hX5 _ _ ?_)))
    refine hK3 _ _ ?_
    refine CW.seq (fun K12 hK12 hE12 => ?_)
    refine CW.region ?_
    refine LR.v (Y.move rfl rfl) (Wd.u rfl) rfl rfl ?_
    refine LR.v (Y.lss rfl rfl rfl) (Wd.u rfl) rfl rfl ?_
    refine LR.v (Y.assign rfl rfl) (Wd.u rfl) rfl rfl ?_
    refine LR.nil ?_
    refine hK12 _ _ ?_
    refine CW.ret (hret .ret (.inr rfl) _ _ _ (res1 rfl rfl) ?_)
    exact ⟨bdec (by unfold Few; rw [show min l.length 200 = k by omega]; omega), rfl⟩

theorem same_ct (v u : Value) (l m : List (List UInt8)) (w0 : World) (H0 : Heap)
    (hv : RdT H0 fS 1 v l) (hu : RdT H0 fS 1 u m) :
    Ct Try.prog w0 62 #[v, u] H0 (fun r H2 => r = .bool (decide (l = m)) ∧ H2 = H0) := by
  refine Ct.enter (args := [v, u]) Try.func62 rfl rfl rfl ?_
  intro Q0 hret
  refine CW.seq (fun K1 hK1 hE1 => ?_)
  refine CW.region ?_
  refine LR.v (Y.assign rfl rfl) (Wd.u rfl) rfl rfl ?_
  refine LR.nil ?_
  refine hK1 _ _ ?_
  refine CW.seq (fun K2 hK2 hE2 => ?_)
  refine CW.seq (fun K3 hK3 hE3 => ?_)
  refine CW.region ?_
  refine LR.v (Y.move rfl rfl) (Wd.u rfl) rfl rfl ?_
  refine LR.v (Y.len hv rfl Try.runUnderlying32 rfl) (Wd.u rfl) rfl rfl ?_
  refine LR.v (Y.move rfl rfl) (Wd.u rfl) rfl rfl ?_
  refine LR.v (Y.len hu rfl Try.runUnderlying32 rfl) (Wd.u rfl) rfl rfl ?_
  refine LR.v (Y.neq rfl rfl rfl) (Wd.u rfl) rfl rfl ?_
  refine LR.nil ?_
  refine hK3 _ _ ?_
  refine CW.condp rfl (fun c10 => ?_) (fun c10 => ?_)
  ·
    refine CW.seq (fun K4 hK4 hE4 => ?_)
    refine CW.region ?_
    refine LR.v (Y.assign rfl rfl) (Wd.u rfl) rfl rfl ?_
    refine LR.nil ?_
    refine hK4 _ _ ?_
    refine CW.ret (hE2 .ret nofun _ _ (hret .ret (.inr rfl) _ _ _ (res1 rfl rfl) ?_))
    exact ⟨bF (fun e => c10 (by rw [e])), rfl⟩
  ·
    have hlm : l.length = m.length := by omega
    refine CW.skip ?_
    refine hK2 _ _ ?_
    refine CW.seq (fun K5 hK5 hE5 => ?_)
    refine CW.seq (fun K6 hK6 hE6 => ?_)
    refine CW.region ?_
    refine LR.v (Y.assign rfl rfl) (Wd.u rfl) rfl rfl ?_
    refine LR.nil ?_
    refine hK6 _ _ ?_
    refine CW.block (fun K7 hK7 hX7 hE7 => ?_)
    refine CW.loop (fun (k : (Nat)) => [(0, v), (1, u), (5, .int .i64 k)])
      (fun (k : (Nat)) (H : Heap) => H = H0 ∧ k ≤ l.length ∧ l.take k = m.take k)
      (fun (k : (Nat)) => l.length - k) 0 ⟨rfl, rfl, rfl, trivial⟩ ?_ ?_
    ·
      exact ⟨rfl, by omega, by simp⟩
    intro k H1 hI1 K8 hN8 hE8
    obtain ⟨rfl, hk1, hk2⟩ := hI1
    have hlen := hv.len
    refine CW.seq (fun K9 hK9 hE9 => ?_)
    refine CW.seq (fun K10 hK10 hE10 => ?_)
    refine CW.region ?_
    refine LR.v (Y.move rfl rfl) (Wd.u rfl) rfl rfl ?_
    refine LR.v (Y.move rfl rfl) (Wd.u rfl) rfl rfl ?_
    refine LR.v (Y.len hv rfl Try.runUnderlying32 rfl) (Wd.u rfl) rfl rfl ?_
    refine LR.v (Y.lss rfl rfl rfl) (Wd.u rfl) rfl rfl ?_
    refine LR.nil ?_
    refine hK10 _ _ ?_
    refine CW.condp rfl (fun c14 => ?_) (fun c14 => ?_)
    ·
      refine CW.skip ?_
      refine hK9 _ _ ?_
      refine CW.seq (fun K11 hK11 hE11 => ?_)
      refine CW.block (fun K12 hK12 hX12 hE12 => ?_)
      refine CW.seq (fun K13 hK13 hE13 => ?_)
      refine CW.region_draw rfl (by kernel_rfl) ?_
      refine LR.v (Y.move rfl rfl) (Wd.u rfl) rfl rfl ?_
      refine LR.v (Y.move rfl rfl) (Wd.u rfl) rfl rfl ?_
      refine LR.e (g := fun ad => .pointer (some ad)) (Y.indexAddr hv (_) rfl Try.runUnderlying32 Try.sizeOf9 rfl rfl rfl (by first | omega | (simp; omega) | (simp; done))) (Wd.u rfl) rfl rfl (fun ad19 pt19 => ?_)
      refine LR.v (Y.load1 pt19 rfl Try.isAgg9 rfl) (Wd.u rfl) rfl rfl ?_
      refine LR.v (Y.move rfl rfl) (Wd.u rfl) rfl rfl ?_
      refine LR.v (Y.move rfl rfl) (Wd.u rfl) rfl rfl ?_
      refine LR.e (g := fun ad => .pointer (some ad)) (Y.indexAddr hu (_) rfl Try.runUnderlying32 Try.sizeOf9 rfl rfl rfl (by first | omega | (simp; omega) | (simp; done))) (Wd.u rfl) rfl rfl (fun ad23 pt23 => ?_)
      refine LR.v (Y.load1 pt23 rfl Try.isAgg9 rfl) (Wd.u rfl) rfl rfl ?_
      refine LR.v (Y.sneq rfl rfl rfl) (Wd.u rfl) rfl rfl ?_
      refine LR.nil ?_
      refine hK13 _ _ ?_
      refine CW.condp rfl (fun c25 => ?_) (fun c25 => ?_)
      ·
        refine CW.seq (fun K14 hK14 hE14 => ?_)
        refine CW.region ?_
        refine LR.v (Y.assign rfl rfl) (Wd.u rfl) rfl rfl ?_
        refine LR.nil ?_
        refine hK14 _ _ ?_
        refine CW.ret (hE12 .ret nofun (by simp) _ _ (hE11 .ret nofun _ _ (hE8 .ret nofun _ _ (hE7 .ret nofun (by simp) _ _ (hE5 .ret nofun _ _ (hret .ret (.inr rfl) _ _ _ (res1 rfl rfl) ?_))))))
        exact ⟨bF (fun e => c25 (by simp [e])), rfl⟩
      ·
        refine CW.skip ?_
        refine hK12 _ _ ?_
        refine hK11 _ _ ?_
        refine CW.region ?_
        refine LR.v (Y.move rfl rfl) (Wd.u rfl) rfl rfl ?_
        refine LR.v (Y.addi rfl rfl rfl (by omega)) (Wd.u rfl) rfl rfl ?_
        refine LR.v (Y.assign rfl rfl) (Wd.u rfl) rfl rfl ?_
        refine LR.nil ?_
        refine QN.sub (hN8 (k+1) _ ?_ ?_) ⟨rfl, rfl, (iv (by omega)), trivial⟩
        · exact ⟨rfl, by omega, by rw [List.take_succ_eq_append_getElem (show k < l.length by omega), List.take_succ_eq_append_getElem (show k < m.length by omega), hk2, show l[k] = m[k] from Decidable.not_not.1 c25]⟩
        · omega
    ·
      refine CW.exit (hE9 (.exit 0) nofun _ _ (hE8 (.exit 0) nofun _ _ (hX7 _ _ ?_)))
      refine hK5 _ _ ?_
      refine CW.seq (fun K15 hK15 hE15 => ?_)
      refine CW.region ?_
      refine LR.v (Y.assign rfl rfl) (Wd.u rfl) rfl rfl ?_
      refine LR.nil ?_
      refine hK15 _ _ ?_
      refine CW.ret (hret .ret (.inr rfl) _ _ _ (res1 rfl rfl) ?_)
      exact ⟨bT (by rw [List.take_of_length_le (by omega), List.take_of_length_le (by omega)] at hk2; exact hk2), rfl⟩


theorem W_len {α : Type} [DecidableEq α] (a b : List α) : (W a b).length ≤ a.length + b.length := (W_mem _ a b (Nat.le_refl _)).1
theorem runs_bd (ops : List Int) (h : ops.length ≤ 100000) : (∀ e ∈ runs ops, 1 ≤ e.2 ∧ e.2 ≤ 1099511627776) ∧ (runs ops).length ≤ 1099511627776 := by
  have h1 := runs_tot ops
  have h2 := tot_pos (runs ops) (runs_pos ops)
  exact ⟨fun e he => ⟨runs_pos ops e he, by have := h2.2 e he; omega⟩, by omega⟩
/-- how far the walk has come -/
def At2 {α : Type} [DecidableEq α] (X Y : List α) (done : List Int) (i j : Nat) : Prop := i ≤ X.length ∧ j ≤ Y.length ∧ ∃ pre, done = pre ∧ ∀ base, base ++ W X Y = base ++ done ++ W (X.drop i) (Y.drop j)
theorem dropc {α : Type} (a : List α) (i : Nat) (h : i < a.length) : a.drop i = a[i] :: a.drop (i + 1) := List.drop_eq_getElem_cons h
theorem W_keep {α : Type} [DecidableEq α] (X Y : List α) (i j : Nat) (hi : i < X.length) (hj : j < Y.length) (h : X[i] = Y[j]) : W (X.drop i) (Y.drop j) = 0 :: W (X.drop (i + 1)) (Y.drop (j + 1)) := by
  rw [dropc X i hi, dropc Y j hj, h, W_same]
theorem W_delete {α : Type} [DecidableEq α] (X Y : List α) (i j : Nat) (hi : i < X.length) (hne : ∀ hj : j < Y.length, X[i] ≠ Y[j]) (h : lcs (X.drop (i + 1)) (Y.drop j) = lcs (X.drop i) (Y.drop j)) : W (X.drop i) (Y.drop j) = 1 :: W (X.drop (i + 1)) (Y.drop j) := by
  rw [dropc X i hi] at h ⊢
  refine W_del _ _ _ (fun y ys' hy => ?_) h
  have hj : j < Y.length := by
    apply Decidable.byContradiction; intro hc
    rw [List.drop_eq_nil_of_le (by omega)] at hy; cases hy
  rw [dropc Y j hj] at hy
  simp only [List.cons.injEq] at hy
  rw [← hy.1]; exact hne hj
theorem W_insert {α : Type} [DecidableEq α] (X Y : List α) (i j : Nat) (hj : j < Y.length) (h : ∀ hi : i < X.length, X[i] ≠ Y[j] ∧ lcs (X.drop (i + 1)) (Y.drop j) ≠ lcs (X.drop i) (Y.drop j)) : W (X.drop i) (Y.drop j) = 2 :: W (X.drop i) (Y.drop (j + 1)) := by
  rw [dropc Y j hj] at h ⊢
  refine W_ins _ _ _ (fun x xs' hx => ?_)
  have hi : i < X.length := by
    apply Decidable.byContradiction; intro hc
    rw [List.drop_eq_nil_of_le (by omega)] at hx; cases hx
  have h1 := h hi
  rw [dropc X i hi] at hx h1
  simp only [List.cons.injEq] at hx
  obtain ⟨rfl, rfl⟩ := hx
  rw [dropc X i hi]
  exact h1
theorem dd1 {α : Type} (l : List α) (c : Nat) : ((l.drop c).take (l.drop c).length).drop 1 = l.drop (c + 1) := by rw [List.take_length, List.drop_drop]
theorem sim_nums {a b : List (List UInt8)} {m1 m2 : List (List UInt8 × Int)} {xs ys : List Int} (hg : GoodM m2) (h1 : Num m1 a xs a.length) (h2 : Num m2 b ys b.length) (hm : ∀ s n, mget m1 s = some n → mget m2 s = some n) (hx : xs.length = a.length) (hy : ys.length = b.length) : Sim a b xs ys := by
  refine ⟨hx.symm, hy.symm, fun i j p q u v hp hq hu hv => ?_⟩
  have e1 := hm p u (by rw [h1 i p (List.getElem?_eq_some_iff.1 hp).1 hp, hu])
  have e2 : mget m2 q = some v := by rw [h2 j q (List.getElem?_eq_some_iff.1 hq).1 hq, hv]
  constructor
  · rintro rfl; rw [e1] at e2; exact Option.some.inj e2
  · rintro rfl; exact mget_inj hg e1 e2
theorem strip {X Y : List Int} {c : Nat} (h1 : c ≤ X.length) (h2 : c ≤ Y.length) (h : X.take c = Y.take c) : W X Y = List.replicate c 0 ++ W (X.drop c) (Y.drop c) := by
  induction c generalizing X Y with
  | zero => simp
  | succ c ih =>
    match X, Y, h1, h2, h with
    | x :: X, y :: Y, h1, h2, h =>
      simp only [List.take_succ_cons, List.cons.injEq] at h
      obtain ⟨rfl, h⟩ := h
      rw [W_same, ih (by simpa using h1) (by simpa using h2) h]
      simp [List.replicate_succ]

end Go.Proofs.Ytegfnfhdgbcjbaa.LinC
