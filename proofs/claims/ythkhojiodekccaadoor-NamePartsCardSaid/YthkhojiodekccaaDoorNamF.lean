/-
  Names: parts of names, and the order in which names are asked.
-/
import Derived.Test.YthkhojiodekccaaDoorNamE
namespace Go.Proofs.YthkhojiodekccaaDoor.NamF
open Go.Proofs.YthkhojiodekccaaDoor.E Go.RowKit Go.Proofs.YthkhojiodekccaaDoor.NamA Go.Proofs.YthkhojiodekccaaDoor.NamB Go.Proofs.YthkhojiodekccaaDoor.NamC Go.Proofs.YthkhojiodekccaaDoor.NamD Go.Proofs.YthkhojiodekccaaDoor.NamE
set_option maxRecDepth 20000
set_option linter.unusedVariables false
set_option linter.unusedSimpArgs false
set_option linter.unusedSectionVars false
set_option maxRecDepth 100000 in
theorem inf27 : Inf Tryd.prog 27 9 1 16 := ⟨Tryd.underlying27, _, _, rfl, rfl, rfl, rfl, rfl⟩

/-- one behind the other, all fit up to place i -/
def okAll (l : List (List UInt8)) (i : Nat) : Bool := (List.range i).all (fun j => decide (fitsL (l.getD j []) (l.take j) = 0))
theorem okAll_succ {l : List (List UInt8)} {i : Nat} (hi : i < l.length) : okAll l (i + 1) = (okAll l i && decide (fitsL l[i] (l.take i) = 0)) := by
  unfold okAll
  rw [List.range_succ, List.all_append]
  simp [List.getD, hi]
theorem fits_iff (s : List UInt8) (l : List (List UInt8)) : fitsL s l = 0 ↔ chk s = 0 ∧ ∀ o ∈ l, o ≠ s ∧ adj o s = false := by
  have hc : ∀ o, adj o s = adj s o := fun o => by unfold adj; rw [Bool.or_comm]
  unfold fitsL
  by_cases h1 : chk s = 0
  · have hb : base s l = if s ∈ l then 8 else 0 := by unfold base; rw [if_neg (by simpa using h1)]
    rw [hb]
    by_cases h2 : s ∈ l
    · rw [if_pos h2, if_pos (by decide)]
      exact ⟨fun h => (by cases h), fun h => absurd rfl (h.2 s h2).1⟩
    · rw [if_neg h2, if_neg (by decide)]
      by_cases h3 : l.any (adj s) = true
      · rw [if_pos h3]
        refine ⟨fun h => (by cases h), fun h => ?_⟩
        obtain ⟨o, ho, e⟩ := List.any_eq_true.1 h3
        have := (h.2 o ho).2
        rw [hc, e] at this; cases this
      · rw [if_neg h3]
        refine ⟨fun _ => ⟨h1, fun o ho => ⟨fun e => h2 (e ▸ ho), ?_⟩⟩, fun _ => rfl⟩
        rw [hc]
        cases e : adj s o with
        | false => rfl
        | true => exact absurd (List.any_eq_true.2 ⟨o, ho, e⟩) h3
  · have hb : base s l = chk s := by unfold base; rw [if_pos h1]
    rw [hb, if_pos h1]
    exact ⟨fun h => absurd h h1, fun h => absurd h.1 h1⟩
theorem okAll_iff (l : List (List UInt8)) : okAll l l.length = true ↔ (∀ s ∈ l, chk s = 0) ∧ l.Pairwise (fun o s => o ≠ s ∧ adj o s = false) := by
  unfold okAll
  rw [List.all_eq_true]
  simp only [List.mem_range, decide_eq_true_eq]
  constructor
  · intro h
    have h1 : ∀ i (hi : i < l.length), chk l[i] = 0 ∧ ∀ o ∈ l.take i, o ≠ l[i] ∧ adj o l[i] = false := fun i hi => by
      have := h i hi
      rw [show l.getD i [] = l[i] by simp [List.getD, hi]] at this
      exact (fits_iff _ _).1 this
    refine ⟨fun s hs => ?_, List.pairwise_iff_getElem.2 (fun i j hi hj hij => ?_)⟩
    · obtain ⟨i, hi, rfl⟩ := List.getElem_of_mem hs; exact (h1 i hi).1
    · exact (h1 j hj).2 _ (List.mem_take_iff_getElem.2 ⟨i, by omega, rfl⟩)
  · rintro ⟨h1, h2⟩ i hi
    rw [show l.getD i [] = l[i] by simp [List.getD, hi]]
    refine (fits_iff _ _).2 ⟨h1 _ (List.getElem_mem hi), fun o ho => ?_⟩
    obtain ⟨j, hj, rfl⟩ := List.mem_take_iff_getElem.1 ho
    exact List.pairwise_iff_getElem.1 h2 j i (by omega) hi (by omega)
def rotL (l : List (List UInt8)) (k i : Nat) : List (List UInt8) := (List.range i).map (fun j => l.getD ((j + k) % l.length) [])
theorem rotL_succ {l : List (List UInt8)} {k i : Nat} (h : (i + k) % l.length < l.length) : rotL l k (i + 1) = rotL l k i ++ [l[(i + k) % l.length]] := by
  unfold rotL
  rw [List.range_succ, List.map_append]
  simp [List.getD, h]
theorem rotL_len (l : List (List UInt8)) (k i : Nat) : (rotL l k i).length = i := by simp [rotL]
theorem rotL_eq {l : List (List UInt8)} {k : Nat} (hk : k < l.length) : rotL l k l.length = l.drop k ++ l.take k := by
  apply List.ext_getElem
  · simp [rotL_len]; omega
  · intro i h1 h2
    rw [rotL_len] at h1
    have e : (rotL l k l.length)[i]'(by rw [rotL_len]; exact h1) = l.getD ((i + k) % l.length) [] := by simp [rotL]
    rw [e]
    by_cases hi : i < (l.drop k).length
    · rw [List.getElem_append_left hi, List.getElem_drop]
      rw [List.length_drop] at hi
      rw [Nat.mod_eq_of_lt (by omega)]
      simp [List.getD, show k + i < l.length by omega, Nat.add_comm]
    · rw [List.getElem_append_right (by omega), List.getElem_take]
      rw [List.length_drop] at hi
      have e2 : (i + k) % l.length = i + k - l.length := by rw [Nat.mod_eq_sub_mod (by omega), Nat.mod_eq_of_lt (by omega)]
      rw [e2]
      have e3 : i - (l.drop k).length = i + k - l.length := by rw [List.length_drop]; omega
      simp only [e3]
      simp [List.getD, show i + k - l.length < l.length by omega]
theorem rot_perm {l : List (List UInt8)} {k : Nat} (hk : k < l.length) : (rotL l k l.length).Perm l := by
  rw [rotL_eq hk]
  exact List.perm_append_comm.trans (by rw [List.take_append_drop])
theorem okAll_rot {l : List (List UInt8)} {k : Nat} (hk : k < l.length) : okAll l l.length = okAll (rotL l k l.length) l.length := by
  have hp := rot_perm hk
  have h1 := okAll_iff l
  have h2 := okAll_iff (rotL l k l.length)
  rw [rotL_len] at h2
  have hsym : ∀ {x y : List UInt8}, (x ≠ y ∧ adj x y = false) → (y ≠ x ∧ adj y x = false) := fun h => ⟨fun e => h.1 e.symm, by rw [← h.2]; unfold adj; rw [Bool.or_comm]⟩
  have e : (okAll l l.length = true) ↔ (okAll (rotL l k l.length) l.length = true) := by
    rw [h1, h2, hp.pairwise_iff hsym]
    constructor
    · rintro ⟨a, b⟩; exact ⟨fun s hs => a s (hp.mem_iff.1 hs), b⟩
    · rintro ⟨a, b⟩; exact ⟨fun s hs => a s (hp.mem_iff.2 hs), b⟩
  cases ha : okAll l l.length <;> cases hb : okAll (rotL l k l.length) l.length <;> simp_all
/-- parts with slashes between them -/
def joinP : List (List UInt8) → List UInt8
  | [] => []
  | [x] => x
  | x :: y :: l => x ++ 47 :: joinP (y :: l)
theorem joinP_snoc : ∀ {l : List (List UInt8)} (x : List UInt8), l ≠ [] → joinP (l ++ [x]) = joinP l ++ [47] ++ x
  | [], _, h => absurd rfl h
  | [y], x, _ => by simp [joinP]
  | y :: z :: l, x, _ => by
    have ih := joinP_snoc (l := z :: l) x (by simp)
    rw [List.cons_append, List.cons_append, joinP]
    rw [List.cons_append] at ih
    rw [ih]; simp [joinP]
theorem scan_app : ∀ (x : List UInt8) (p : Nat) (y : List UInt8), scan p (x ++ 47 :: y) ↔ scan p x ∧ scan 47 y
  | [], p, y => by
    have t47 : (47 : UInt8).toNat = 47 := rfl
    simp only [List.nil_append, scan, g47, t47, true_and, forall_const]
    constructor
    · rintro ⟨a, _, _, b⟩; exact ⟨a, b⟩
    · rintro ⟨a, b⟩; exact ⟨a, fun _ => ⟨by decide, by decide⟩, fun e => by omega, b⟩
  | c :: x, p, y => by
    have ih := scan_app x c.toNat y
    simp only [List.cons_append, scan, ih]
    constructor
    · rintro ⟨a, b, d, e, f, g⟩; exact ⟨⟨a, b, d, e, f⟩, g⟩
    · rintro ⟨⟨a, b, d, e, f⟩, g⟩; exact ⟨a, b, d, e, f, g⟩
theorem scan_join : ∀ {l : List (List UInt8)}, l ≠ [] → (scan 47 (joinP l) ↔ ∀ x ∈ l, scan 47 x)
  | [], h => absurd rfl h
  | [x], _ => by simp [joinP]
  | x :: y :: l, _ => by
    have ih := scan_join (l := y :: l) (by simp)
    rw [joinP, scan_app, ih]; simp
theorem joinP_le : ∀ {l : List (List UInt8)} {x : List UInt8}, x ∈ l → x.length ≤ (joinP l).length
  | [], x, h => by cases h
  | [y], x, h => by rw [List.mem_singleton] at h; subst h; exact Nat.le_refl _
  | y :: z :: l, x, h => by
    rw [joinP, List.length_append, List.length_cons]
    rcases List.mem_cons.1 h with rfl | h
    · omega
    · have := joinP_le h; omega
theorem join_chk {l : List (List UInt8)} : chk (joinP l) = 0 ↔ (l ≠ [] ∧ ∀ x ∈ l, chk x = 0) ∧ (joinP l).length ≤ 60 := by
  by_cases h0 : l = []
  · subst h0
    have : chk (joinP []) = 7 := by decide +kernel
    rw [this]; simp
  · rw [chk_iff, scan_join h0]
    constructor
    · rintro ⟨a, b⟩; exact ⟨⟨h0, fun x hx => (chk_iff x).2 ⟨Nat.le_trans (joinP_le hx) a, b x hx⟩⟩, a⟩
    · rintro ⟨⟨_, b⟩, a⟩; exact ⟨a, fun x hx => ((chk_iff x).1 (b x hx)).2⟩
def noSl (x : List UInt8) : Prop := ∀ c ∈ x, c.toNat ≠ 47
theorem mem_take_succ2 {α : Type} {l : List α} {j : Nat} {p : α → Prop} (hj : j < l.length) : (∀ x ∈ l.take (j + 1), p x) ↔ (∀ x ∈ l.take j, p x) ∧ p l[j] := by
  rw [List.take_succ_eq_append_getElem hj]
  constructor
  · intro h; exact ⟨fun x hx => h x (List.mem_append.2 (.inl hx)), h _ (List.mem_append.2 (.inr (by simp)))⟩
  · rintro ⟨h1, h2⟩ x hx
    rcases List.mem_append.1 hx with hx | hx
    · exact h1 x hx
    · rw [List.mem_singleton] at hx; rw [hx]; exact h2
theorem join_len : ∀ {l : List (List UInt8)}, (∀ x ∈ l, x.length ≤ 100) → (joinP l).length ≤ 101 * l.length
  | [], _ => by simp [joinP]
  | [y], h => by have := h y (by simp); simp only [joinP, List.length_cons, List.length_nil]; omega
  | y :: z :: l, h => by
    have h1 := h y (by simp)
    have := join_len (l := z :: l) (fun x hx => h x (List.mem_cons_of_mem _ hx))
    rw [joinP, List.length_append, List.length_cons]
    simp only [List.length_cons] at *
    omega

theorem within_ct (a n : Int) (w0 : World) (H0 : Heap)
    (hn : 0 < n) (hn2 : n ≤ 1099511627776) :
    Ct Tryd.prog w0 12 #[.int .i64 a, .int .i64 n] H0 (fun r H2 => r = .int .i64 (a % n) ∧ Nw H0 H2) := by
  refine Ct.enter (args := [.int .i64 a, .int .i64 n]) Tryd.func12 rfl rfl rfl ?_
  intro Q0 hret
  have hm0 : Nw H0 H0 := Mo.refl _ _
  have h1 := Int.emod_nonneg a (show n ≠ 0 by omega)
  have h2 := Int.emod_lt_of_pos a hn
  have h3 : a.tmod n = a % n ∨ a.tmod n + n = a % n ∧ a.tmod n < 0 := by
    rw [Int.tmod_eq_emod]
    split
    · left; omega
    · rename_i hh; right
      have : (n.natAbs : Int) = n := by omega
      omega
  have h4 : 0 ≤ a.tmod n → a.tmod n = a % n := by omega
  refine CW.seq (fun K1 hK1 hE1 => ?_)
  refine CW.region ?_
  refine LR.v (Y.assign rfl rfl) (Wd.u rfl) rfl rfl ?_
  refine LR.nil ?_
  refine hK1 _ _ ?_
  refine CW.seq (fun K2 hK2 hE2 => ?_)
  refine CW.region ?_
  refine LR.v (Y.move rfl rfl) (Wd.u rfl) rfl rfl ?_
  refine LR.v (Y.move rfl rfl) (Wd.u rfl) rfl rfl ?_
  refine LR.v (Y.rem rfl rfl rfl (by omega)) (Wd.u rfl) rfl rfl ?_
  refine LR.v (Y.assign rfl rfl) (Wd.u rfl) rfl rfl ?_
  refine LR.nil ?_
  refine hK2 _ _ ?_
  refine CW.seq (fun K3 hK3 hE3 => ?_)
  refine CW.seq (fun K4 hK4 hE4 => ?_)
  refine CW.region ?_
  refine LR.v (Y.move rfl rfl) (Wd.u rfl) rfl rfl ?_
  refine LR.v (Y.lss rfl rfl rfl) (Wd.u rfl) rfl rfl ?_
  refine LR.nil ?_
  refine hK4 _ _ ?_
  refine CW.condp rfl (fun c10 => ?_) (fun c10 => ?_)
  ·
    refine CW.region ?_
    refine LR.v (Y.move rfl rfl) (Wd.u rfl) rfl rfl ?_
    refine LR.v (Y.move rfl rfl) (Wd.u rfl) rfl rfl ?_
    refine LR.v (Y.addi rfl rfl rfl (by omega)) (Wd.u rfl) rfl rfl ?_
    refine LR.v (Y.assign rfl rfl) (Wd.u rfl) rfl rfl ?_
    refine LR.nil ?_
    refine hK3 _ _ ?_
    refine CW.seq (fun K5 hK5 hE5 => ?_)
    refine CW.region ?_
    refine LR.v (Y.move rfl rfl) (Wd.u rfl) rfl rfl ?_
    refine LR.v (Y.assign rfl rfl) (Wd.u rfl) rfl rfl ?_
    refine LR.nil ?_
    refine hK5 _ _ ?_
    refine CW.ret (hret .ret (.inr rfl) _ _ _ (res1 rfl rfl) ?_)
    exact ⟨ivv (by omega), hm0⟩
  ·
    refine CW.skip ?_
    refine hK3 _ _ ?_
    refine CW.seq (fun K6 hK6 hE6 => ?_)
    refine CW.region ?_
    refine LR.v (Y.move rfl rfl) (Wd.u rfl) rfl rfl ?_
    refine LR.v (Y.assign rfl rfl) (Wd.u rfl) rfl rfl ?_
    refine LR.nil ?_
    refine hK6 _ _ ?_
    refine CW.ret (hret .ret (.inr rfl) _ _ _ (res1 rfl rfl) ?_)
    exact ⟨ivv (by omega), hm0⟩

set_option maxHeartbeats 4000000 in
theorem nameOrder_ct (v : Value) (l : List (List UInt8)) (by_ : Int) (mx_ : Int) (w0 : World) (H0 : Heap)
    (mx : MX mx_ H0) (bf_mx : BF (fun b => b = 0) H0.size) (hl : RdT H0 fS 1 v l) (hx : ∀ x ∈ l, x.length ≤ 140737488355328) :
    Ct Tryd.prog w0 6 #[v, .int .i64 by_] H0 (fun r H2 => r = .bool true ∧ Nw H0 H2) := by
  refine Ct.enter (args := [v, .int .i64 by_]) Tryd.func6 rfl rfl rfl ?_
  intro Q0 hret
  have hm0 : Nw H0 H0 := Mo.refl _ _
  replace hl := hl.bnd
  have bf_hl := Rd.bf hl
  have hll := hl.len
  refine CW.seq (fun K1 hK1 hE1 => ?_)
  refine CW.region ?_
  refine LR.v (Y.assign rfl rfl) (Wd.u rfl) rfl rfl ?_
  refine LR.nil ?_
  refine hK1 _ _ ?_
  refine CW.seq (fun K2 hK2 hE2 => ?_)
  refine CW.seq (fun K3 hK3 hE3 => ?_)
  refine CW.region ?_
  -- call selvage/selvagelaw9.known
  refine LR.call rfl Tryd.call7 rfl (Wd.u rfl) rfl rfl (known_ct mx_ w0 _ mx bf_mx) (fun v11 H11 r11 => ?_)
  obtain ⟨rfl, hs11⟩ := r11
  replace mx := mx.nw hs11
  replace hl := hl.nw hs11
  replace hm0 := hm0.tr hs11
  have hz1 := hs11.size
  refine LR.v (Y.not rfl rfl) (Wd.u rfl) rfl rfl ?_
  refine LR.nil ?_
  refine hK3 _ _ ?_
  refine CW.cond_f rfl ?_
  refine CW.skip ?_
  refine hK2 _ _ ?_
  refine CW.seq (fun K4 hK4 hE4 => ?_)
  refine CW.seq (fun K5 hK5 hE5 => ?_)
  refine CW.region ?_
  refine LR.v (Y.move rfl rfl) (Wd.u rfl) rfl rfl ?_
  refine LR.v (Y.len hl rfl Tryd.runUnderlying27 rfl) (Wd.u rfl) rfl rfl ?_
  refine LR.v (Y.eql rfl rfl rfl) (Wd.u rfl) rfl rfl ?_
  refine LR.v (Y.move rfl rfl) (Wd.u rfl) rfl rfl ?_
  refine LR.splitp (d := 16) rfl (fun g16 => ?_) (fun g16 => ?_)
  ·
    refine LR.gs rfl rfl rfl rfl rfl rfl ?_
    refine LR.gs rfl rfl rfl rfl rfl rfl ?_
    refine LR.gs rfl rfl rfl rfl rfl rfl ?_
    refine LR.v (Y.pick_t rfl rfl rfl) (Wd.u rfl) rfl rfl ?_
    refine LR.nil ?_
    refine hK5 _ _ ?_
    refine CW.cond_t rfl ?_
    refine CW.seq (fun K6 hK6 hE6 => ?_)
    refine CW.region ?_
    refine LR.v (Y.assign rfl rfl) (Wd.u rfl) rfl rfl ?_
    refine LR.nil ?_
    refine hK6 _ _ ?_
    refine CW.ret (hE4 .ret nofun _ _ (hret .ret (.inr rfl) _ _ _ (res1 rfl rfl) ?_))
    exact ⟨rfl, hm0⟩
  ·
    refine LR.v (Y.move rfl rfl) (Wd.g rfl rfl rfl) rfl rfl ?_
    refine LR.v (Y.len hl rfl Tryd.runUnderlying27 rfl) (Wd.g rfl rfl rfl) rfl rfl ?_
    refine LR.v (Y.gtr rfl rfl rfl) (Wd.g rfl rfl rfl) rfl rfl ?_
    refine LR.v (Y.pick_f rfl rfl rfl) (Wd.u rfl) rfl rfl ?_
    refine LR.nil ?_
    refine hK5 _ _ ?_
    refine CW.condp rfl (fun c20 => ?_) (fun c20 => ?_)
    ·
      refine CW.seq (fun K7 hK7 hE7 => ?_)
      refine CW.region ?_
      refine LR.v (Y.assign rfl rfl) (Wd.u rfl) rfl rfl ?_
      refine LR.nil ?_
      refine hK7 _ _ ?_
      refine CW.ret (hE4 .ret nofun _ _ (hret .ret (.inr rfl) _ _ _ (res1 rfl rfl) ?_))
      exact ⟨rfl, hm0⟩
    ·
      refine CW.skip ?_
      refine hK4 _ _ ?_
      refine CW.seq (fun K8 hK8 hE8 => ?_)
      refine CW.region ?_
      refine LR.v (Y.assign rfl rfl) (Wd.u rfl) rfl rfl ?_
      refine LR.v (Y.assign rfl rfl) (Wd.u rfl) rfl rfl ?_
      refine LR.nil ?_
      refine hK8 _ _ ?_
      refine CW.seq (fun K9 hK9 hE9 => ?_)
      refine CW.seq (fun K10 hK10 hE10 => ?_)
      refine CW.region ?_
      refine LR.v (Y.assign rfl rfl) (Wd.u rfl) rfl rfl ?_
      refine LR.nil ?_
      refine hK10 _ _ ?_
      refine CW.block (fun K11 hK11 hX11 hE11 => ?_)
      refine CW.loop (fun (s_ : (Nat) × (Bool)) => match s_ with | (i, a) => [(0, v), (1, .int .i64 by_), (5, .bool a), (6, .bool true), (7, .int .i64 i)])
        (fun (s_ : (Nat) × (Bool)) (H : Heap) => match s_ with | (i, a) => (i ≤ l.length) ∧ (a = okAll l i) ∧ Nw H11 H)
        (fun (s_ : (Nat) × (Bool)) => match s_ with | (i, a) => l.length - i) (0, true) ⟨rfl, rfl, rfl, rfl, rfl, trivial⟩ ?_ ?_
      ·
        exact ⟨(by omega), rfl, Mo.refl _ _⟩
      rintro ⟨i, a⟩ HL1 hI1 K12 hN12 hE12
      obtain ⟨hi, ha, hlm1⟩ := hI1
      replace mx := mx.nw hlm1
      replace hl := hl.nw hlm1
      replace hm0 := hm0.tr hlm1
      have hz2 := hlm1.size
      refine CW.seq (fun K13 hK13 hE13 => ?_)
      refine CW.seq (fun K14 hK14 hE14 => ?_)
      refine CW.region ?_
      refine LR.v (Y.move rfl rfl) (Wd.u rfl) rfl rfl ?_
      refine LR.v (Y.move rfl rfl) (Wd.u rfl) rfl rfl ?_
      refine LR.v (Y.len hl rfl Tryd.runUnderlying27 rfl) (Wd.u rfl) rfl rfl ?_
      refine LR.v (Y.lss rfl rfl rfl) (Wd.u rfl) rfl rfl ?_
      refine LR.nil ?_
      refine hK14 _ _ ?_
      refine CW.condp rfl (fun c24 => ?_) (fun c24 => ?_)
      ·
        have hil : i < l.length := by omega
        refine CW.skip ?_
        refine hK13 _ _ ?_
        refine CW.seq (fun K15 hK15 hE15 => ?_)
        refine CW.block (fun K16 hK16 hX16 hE16 => ?_)
        refine CW.region_tail 9 rfl (by kernel_rfl) (fun T9 hT9 => ?_)
        refine LR.v (Y.move rfl rfl) (Wd.u rfl) rfl rfl ?_
        refine LR.v (Y.move rfl rfl) (Wd.u rfl) rfl rfl ?_
        refine LR.split (d := 28) rfl (fun g28 => ?_) (fun g28 => ?_)
        ·
          refine LR.v (Y.move rfl rfl) (Wd.g rfl rfl rfl) rfl rfl ?_
          refine LR.v (Y.move rfl rfl) (Wd.g rfl rfl rfl) rfl rfl ?_
          refine LR.e (g := fun ad => .pointer (some ad)) (Y.indexAddrF hl (i) rfl Tryd.runUnderlying27 Tryd.sizeOf9 rfl rfl (by first | rfl | omega) (by first | omega | (simp; omega) | (simp; done))) (Wd.g rfl rfl rfl) rfl rfl (fun ad31 pt31 => ?_)
          have bf_pt31 := bf_hl
          refine LR.v (Y.load1 pt31.pt rfl Tryd.isAgg9 rfl) (Wd.g rfl rfl rfl) rfl rfl ?_
          refine LR.v (Y.move rfl rfl) (Wd.g rfl rfl rfl) rfl rfl ?_
          refine LR.v (Y.move rfl rfl) (Wd.g rfl rfl rfl) rfl rfl ?_
          refine LR.e (g := fun v => v) (Y.slice hl (0) (i) rfl Tryd.runUnderlying27 Tryd.sizeOf9 rfl (.inl ⟨rfl, rfl⟩) (.inr ⟨_, _, _, rfl, rfl, by first | rfl | omega⟩) (by omega) (by omega)) (Wd.g rfl rfl rfl) rfl rfl (fun v35 rd35 => ?_)
          have bf_rd35 := bf_hl
          rw [List.drop_zero] at rd35
          refine LR.nil (hT9 _ ?_)
          -- call selvage/name.Fits
          refine LR.call rfl Tryd.call10 rfl (Wd.g rfl rfl rfl) rfl rfl (fits_ct l[i] _ (l.take i) mx_ w0 _ mx (bf_mx.mono (by omega)) rd35.any (hx _ (List.getElem_mem hil)) (fun x h => hx x (List.mem_of_mem_take h))) (fun v36 H36 r36 => ?_)
          obtain ⟨rfl, hs36⟩ := r36
          replace mx := mx.nw hs36
          replace hl := hl.nw hs36
          replace pt31 := pt31.nw hs36
          replace rd35 := rd35.nw hs36
          replace hm0 := hm0.tr hs36
          replace hlm1 := hlm1.tr hs36
          have hz3 := hs36.size
          refine LR.v (Y.eql rfl rfl rfl) (Wd.g rfl rfl rfl) rfl rfl ?_
          refine LR.v (Y.pick_t rfl rfl rfl) (Wd.u rfl) rfl rfl ?_
          refine LR.v (Y.assign rfl rfl) (Wd.u rfl) rfl rfl ?_
          refine LR.nil ?_
          refine hK16 _ _ ?_
          refine hK15 _ _ ?_
          refine CW.region ?_
          refine LR.v (Y.move rfl rfl) (Wd.u rfl) rfl rfl ?_
          refine LR.v (Y.addi rfl rfl rfl (by omega)) (Wd.u rfl) rfl rfl ?_
          refine LR.v (Y.assign rfl rfl) (Wd.u rfl) rfl rfl ?_
          refine LR.nil ?_
          refine QN.sub (hN12 (i + 1, decide (fitsL l[i] (l.take i) = 0)) _ ?_ ?_) ⟨rfl, (iv (by omega)), rfl, rfl, (iv (by omega)), trivial⟩
          · exact ⟨(by omega), (by rw [okAll_succ hil, ← ha, g28, Bool.true_and]), hlm1⟩
          · first | omega | (simp only; omega) | (simp; omega)
        ·
          refine LR.gs rfl rfl rfl rfl rfl rfl ?_
          refine LR.gs rfl rfl rfl rfl rfl rfl ?_
          refine LR.gs rfl rfl rfl rfl rfl rfl ?_
          refine LR.gs rfl rfl rfl rfl rfl rfl ?_
          refine LR.gs rfl rfl rfl rfl rfl rfl ?_
          refine LR.gs rfl rfl rfl rfl rfl rfl ?_
          refine LR.gs rfl rfl rfl rfl rfl rfl ?_
          refine LR.nil (hT9 _ ?_)
          refine LR.gs rfl rfl rfl rfl rfl rfl ?_
          refine LR.gs rfl rfl rfl rfl rfl rfl ?_
          refine LR.v (Y.pick_f rfl rfl rfl) (Wd.u rfl) rfl rfl ?_
          refine LR.v (Y.assign rfl rfl) (Wd.u rfl) rfl rfl ?_
          refine LR.nil ?_
          refine hK16 _ _ ?_
          refine hK15 _ _ ?_
          refine CW.region ?_
          refine LR.v (Y.move rfl rfl) (Wd.u rfl) rfl rfl ?_
          refine LR.v (Y.addi rfl rfl rfl (by omega)) (Wd.u rfl) rfl rfl ?_
          refine LR.v (Y.assign rfl rfl) (Wd.u rfl) rfl rfl ?_
          refine LR.nil ?_
          refine QN.sub (hN12 (i + 1, false) _ ?_ ?_) ⟨rfl, (iv (by omega)), rfl, rfl, (iv (by omega)), trivial⟩
          · exact ⟨(by omega), (by rw [okAll_succ hil, ← ha, g28, Bool.false_and]), hlm1⟩
          · first | omega | (simp only; omega) | (simp; omega)
      ·
        have hil : i = l.length := by omega
        have hn0 : 0 < l.length := by omega
        obtain ⟨k, hk⟩ : ∃ k : Nat, by_ % (l.length : Int) = k := ⟨(by_ % (l.length : Int)).toNat, by have := Int.emod_nonneg by_ (show (l.length : Int) ≠ 0 by omega); omega⟩
        have hkl : k < l.length := by have := Int.emod_lt_of_pos by_ (show 0 < (l.length : Int) by omega); omega
        refine CW.exit (hE13 (.exit 0) nofun _ _ (hE12 (.exit 0) nofun _ _ (hX11 _ _ ?_)))
        refine hK9 _ _ ?_
        refine CW.seq (fun K17 hK17 hE17 => ?_)
        refine CW.region ?_
        refine LR.v (Y.assign rfl rfl) (Wd.u rfl) rfl rfl ?_
        refine LR.nil ?_
        refine hK17 _ _ ?_
        refine CW.seq (fun K18 hK18 hE18 => ?_)
        refine CW.seq (fun K19 hK19 hE19 => ?_)
        refine CW.region ?_
        refine LR.v (Y.assign rfl rfl) (Wd.u rfl) rfl rfl ?_
        refine LR.nil ?_
        refine hK19 _ _ ?_
        refine CW.block (fun K20 hK20 hX20 hE20 => ?_)
        refine CW.loop (fun (s_ : (Nat) × (Value) × (Nat)) => match s_ with | (i, vm, km) => [(0, v), (1, .int .i64 by_), (5, .bool a), (6, .bool true), (8, vm), (9, .int .i64 i)])
          (fun (s_ : (Nat) × (Value) × (Nat)) (H : Heap) => match s_ with | (i, vm, km) => (i ≤ l.length) ∧ (Ow km 9 H fS 1 vm (rotL l k i)) ∧ (Nx 0 HL1.size km) ∧ Nw HL1 H)
          (fun (s_ : (Nat) × (Value) × (Nat)) => match s_ with | (i, vm, km) => l.length - i) (0, .slice none 0 0, 0) ⟨rfl, rfl, rfl, rfl, rfl, rfl, trivial⟩ ?_ ?_
        ·
          exact ⟨(by omega), Ow.nil fS_len fS_one, Nx.refl _ _, Mo.refl _ _⟩
        rintro ⟨i, vm, km⟩ HL2 hI2 K21 hN21 hE21
        obtain ⟨hi, om, nxl_om, hlm2⟩ := hI2
        have df1 := DF.app (DF.z) (bf_mx.mono hm0.size) nxl_om
        have df2 := DF.app (DF.z) (bf_hl.mono hm0.size) nxl_om
        have nx3 : Nx 0 H0.size km := Nx.tr (Nx.refl 0 _) nxl_om hm0.size
        replace mx := mx.nw hlm2
        replace hl := hl.nw hlm2
        replace hm0 := hm0.tr hlm2
        have hz4 := hlm2.size
        have hle_om := om.le
        have nx4 := nxl_om
        refine CW.seq (fun K22 hK22 hE22 => ?_)
        refine CW.seq (fun K23 hK23 hE23 => ?_)
        refine CW.region ?_
        refine LR.v (Y.move rfl rfl) (Wd.u rfl) rfl rfl ?_
        refine LR.v (Y.move rfl rfl) (Wd.u rfl) rfl rfl ?_
        refine LR.v (Y.len hl rfl Tryd.runUnderlying27 rfl) (Wd.u rfl) rfl rfl ?_
        refine LR.v (Y.lss rfl rfl rfl) (Wd.u rfl) rfl rfl ?_
        refine LR.nil ?_
        refine hK23 _ _ ?_
        refine CW.condp rfl (fun c42 => ?_) (fun c42 => ?_)
        ·
          have hil2 : i < l.length := by omega
          have hml : (i + k) % l.length < l.length := Nat.mod_lt _ (by omega)
          have hrl := rotL_len l k i
          refine CW.skip ?_
          refine hK22 _ _ ?_
          refine CW.seq (fun K24 hK24 hE24 => ?_)
          refine CW.block (fun K25 hK25 hX25 hE25 => ?_)
          refine CW.region ?_
          refine LR.v (Y.move rfl rfl) (Wd.u rfl) rfl rfl ?_
          refine LR.v (Y.move rfl rfl) (Wd.u rfl) rfl rfl ?_
          refine LR.v (Y.move rfl rfl) (Wd.u rfl) rfl rfl ?_
          refine LR.v (Y.move rfl rfl) (Wd.u rfl) rfl rfl ?_
          refine LR.v (Y.move rfl rfl) (Wd.u rfl) rfl rfl ?_
          refine LR.v (Y.len hl rfl Tryd.runUnderlying27 rfl) (Wd.u rfl) rfl rfl ?_
          -- call selvage/selvagelaw9.within
          refine LR.call rfl Tryd.call12 rfl (Wd.u rfl) rfl rfl (within_ct by_ l.length w0 _ (by omega) (by omega)) (fun v51 H51 r51 => ?_)
          obtain ⟨rfl, hs51⟩ := r51
          replace mx := mx.nw hs51
          replace hl := hl.nw hs51
          replace om := om.nw hs51
          replace hm0 := hm0.tr hs51
          replace hlm2 := hlm2.tr hs51
          have hz5 := hs51.size
          refine LR.v (Y.cast (v2 := .int .i64 ((i + k : Nat) : Int)) (Y.addi rfl rfl rfl (by rw [hk]; omega)) (by rw [hk]; rfl)) (Wd.u rfl) rfl rfl ?_
          refine LR.v (Y.move rfl rfl) (Wd.u rfl) rfl rfl ?_
          refine LR.v (Y.len hl rfl Tryd.runUnderlying27 rfl) (Wd.u rfl) rfl rfl ?_
          refine LR.v (Y.cast (v2 := .int .i64 (((i + k) % l.length : Nat) : Int)) (Y.remi rfl rfl rfl (by omega)) (congrArg (Value.int .i64) (by first | exact (Int.natCast_mod _ _).symm | simp))) (Wd.u rfl) rfl rfl ?_
          refine LR.e (g := fun ad => .pointer (some ad)) (Y.indexAddrF hl ((i + k) % l.length) rfl Tryd.runUnderlying27 Tryd.sizeOf9 rfl rfl (by first | rfl | omega) (hml)) (Wd.u rfl) rfl rfl (fun ad56 pt56 => ?_)
          have bf_pt56 := bf_hl
          refine LR.v (Y.load1 pt56.pt rfl Tryd.isAgg9 rfl) (Wd.u rfl) rfl rfl ?_
          refine LR.z (Z.litw _ ([l[(i + k) % l.length]]) rfl inf27 rfl rfl rfl (by decide) (by decide) fS_len fS_one (rfl)) (Wd.u rfl) rfl rfl (fun v58 H58 r58 => ?_)
          obtain ⟨nw58, hs58, ob58, hH58⟩ := r58
          have hzs58 : H58.size = H51.size + 1 := by rw [hH58]; simp
          have df5 := (DF.new (bf_mx.mono hm0.size) : DF _ (H51.size + 1))
          have df6 := (DF.new (bf_hl.mono hm0.size) : DF _ (H51.size + 1))
          have dj7 : Dj km (H51.size + 1) := Dj.new om.le
          have df8 := (DF.new (bf_pt56.mono hm0.size) : DF _ (H51.size + 1))
          have nx9 : Nx 0 H0.size (H51.size + 1) := Nx.new hm0.size
          have nx10 : Nx 0 HL1.size (H51.size + 1) := Nx.new hlm2.size
          replace mx := mx.nw hs58
          replace hl := hl.nw hs58
          replace om := om.nw hs58
          replace pt56 := pt56.nw hs58
          replace hm0 := hm0.tr hs58
          replace hlm2 := hlm2.tr hs58
          have hz6 := hs58.size
          refine LR.z (Z.apnd om nw58.rd rfl inf27 rfl rfl (by rw [hrl]; simp; omega) (by rw [hrl]; simp; omega)) (Wd.u rfl) rfl rfl (fun v59 H59 r59 => ?_)
          obtain ⟨k59, om, hk59, hs59⟩ := r59
          replace hk59 : Nx km H58.size k59 := hk59
          replace hs59 := hs59.md
          have df11 := DF.app (df1) (bf_mx.mono hm0.size) hk59
          have df12 := DF.app (df2) (bf_hl.mono hm0.size) hk59
          have df13 := DF.app (df2) (bf_pt56.mono hm0.size) hk59
          have dj14 : Dj (H51.size + 1) k59 := Dj.app (dj7.symm) nw58.le hk59
          have nx15 : Nx 0 H0.size k59 := Nx.tr (nx3) hk59 hm0.size
          have nx16 : Nx 0 HL1.size k59 := Nx.tr (nx4) hk59 hlm2.size
          replace mx := mx.upL hs59 (DFL.cons df1 DFL.nil)
          replace hl := hl.upL hs59 (DFL.cons df2 DFL.nil)
          replace pt56 := pt56.upL hs59 (DFL.cons df2 DFL.nil)
          replace nw58 := nw58.upL hs59 (DL.cons dj7.symm DL.nil)
          replace hm0 := (Mo.trL (ks := []) (hm0.mdn []) hs59 (MIL.cons (MI.app MI.z (nx3) (Nat.le_refl _)) MIL.nil)).nil
          replace hlm2 := (Mo.trL (ks := []) (hlm2.mdn []) hs59 (MIL.cons (MI.app MI.z (nx4) (Nat.le_refl _)) MIL.nil)).nil
          have hz7 := hs59.size
          have hle_om := om.le
          refine LR.v (Y.assign rfl rfl) (Wd.u rfl) rfl rfl ?_
          refine LR.nil ?_
          refine hK25 _ _ ?_
          refine hK24 _ _ ?_
          refine CW.region ?_
          refine LR.v (Y.move rfl rfl) (Wd.u rfl) rfl rfl ?_
          refine LR.v (Y.addi rfl rfl rfl (by omega)) (Wd.u rfl) rfl rfl ?_
          refine LR.v (Y.assign rfl rfl) (Wd.u rfl) rfl rfl ?_
          refine LR.nil ?_
          refine QN.sub (hN21 (i + 1, v59, k59) _ ?_ ?_) ⟨rfl, (iv (by omega)), rfl, rfl, rfl, (iv (by omega)), trivial⟩
          · exact ⟨(by omega), by rw [rotL_succ hml]; exact om, nx16, hlm2⟩
          · first | omega | (simp only; omega) | (simp; omega)
        ·
          have hil3 : i = l.length := by omega
          rw [hil3] at om
          obtain ⟨ms, hms⟩ : ∃ ms, rotL l k l.length = ms := ⟨_, rfl⟩
          have hml : ms.length = l.length := by rw [← hms, rotL_len]
          have hxm : ∀ x ∈ ms, x.length ≤ 140737488355328 := fun x h => hx x ((rot_perm hkl).mem_iff.1 (by rw [hms]; exact h))
          rw [hms] at om
          refine CW.exit (hE22 (.exit 2) nofun _ _ (hE21 (.exit 2) nofun _ _ (hX20 _ _ ?_)))
          refine hK18 _ _ ?_
          refine CW.seq (fun K26 hK26 hE26 => ?_)
          refine CW.seq (fun K27 hK27 hE27 => ?_)
          refine CW.region ?_
          refine LR.v (Y.assign rfl rfl) (Wd.u rfl) rfl rfl ?_
          refine LR.nil ?_
          refine hK27 _ _ ?_
          refine CW.block (fun K28 hK28 hX28 hE28 => ?_)
          refine CW.loop (fun (s_ : (Nat) × (Bool)) => match s_ with | (i, b) => [(5, .bool a), (6, .bool b), (8, vm), (10, .int .i64 i)])
            (fun (s_ : (Nat) × (Bool)) (H : Heap) => match s_ with | (i, b) => (i ≤ ms.length) ∧ (b = okAll ms i) ∧ Nw HL2 H)
            (fun (s_ : (Nat) × (Bool)) => match s_ with | (i, b) => ms.length - i) (0, true) ⟨rfl, rfl, rfl, rfl, trivial⟩ ?_ ?_
          ·
            exact ⟨(by omega), rfl, Mo.refl _ _⟩
          rintro ⟨i, b⟩ HL3 hI3 K29 hN29 hE29
          obtain ⟨hi, hb, hlm3⟩ := hI3
          replace mx := mx.nw hlm3
          replace hl := hl.nw hlm3
          replace om := om.nw hlm3
          replace hm0 := hm0.tr hlm3
          have hz8 := hlm3.size
          refine CW.seq (fun K30 hK30 hE30 => ?_)
          refine CW.seq (fun K31 hK31 hE31 => ?_)
          refine CW.region ?_
          refine LR.v (Y.move rfl rfl) (Wd.u rfl) rfl rfl ?_
          refine LR.v (Y.move rfl rfl) (Wd.u rfl) rfl rfl ?_
          refine LR.v (Y.len om.rd rfl Tryd.runUnderlying27 rfl) (Wd.u rfl) rfl rfl ?_
          refine LR.v (Y.lss rfl rfl rfl) (Wd.u rfl) rfl rfl ?_
          refine LR.nil ?_
          refine hK31 _ _ ?_
          refine CW.condp rfl (fun c63 => ?_) (fun c63 => ?_)
          ·
            have hil4 : i < ms.length := by omega
            refine CW.skip ?_
            refine hK30 _ _ ?_
            refine CW.seq (fun K32 hK32 hE32 => ?_)
            refine CW.block (fun K33 hK33 hX33 hE33 => ?_)
            refine CW.region_tail 9 rfl (by kernel_rfl) (fun T18 hT18 => ?_)
            refine LR.v (Y.move rfl rfl) (Wd.u rfl) rfl rfl ?_
            refine LR.v (Y.move rfl rfl) (Wd.u rfl) rfl rfl ?_
            refine LR.split (d := 67) rfl (fun g67 => ?_) (fun g67 => ?_)
            ·
              refine LR.v (Y.move rfl rfl) (Wd.g rfl rfl rfl) rfl rfl ?_
              refine LR.v (Y.move rfl rfl) (Wd.g rfl rfl rfl) rfl rfl ?_
              refine LR.v (Y.owAddr om (i) rfl Tryd.runUnderlying27 Tryd.sizeOf9 rfl rfl (by first | rfl | omega) (by first | omega | (simp; omega) | (simp; done))) (Wd.g rfl rfl rfl) rfl rfl ?_
              refine LR.v (Y.load1 (om.pt (j := i) (by first | omega | (simp; omega) | (simp; done))) rfl Tryd.isAgg9 rfl) (Wd.g rfl rfl rfl) rfl rfl ?_
              refine LR.v (Y.move rfl rfl) (Wd.g rfl rfl rfl) rfl rfl ?_
              refine LR.v (Y.move rfl rfl) (Wd.g rfl rfl rfl) rfl rfl ?_
              refine LR.e (g := fun v => v) (Y.slice om.rd (0) (i) rfl Tryd.runUnderlying27 Tryd.sizeOf9 rfl (.inl ⟨rfl, rfl⟩) (.inr ⟨_, _, _, rfl, rfl, by first | rfl | omega⟩) (by omega) (by omega)) (Wd.g rfl rfl rfl) rfl rfl (fun v74 rd74 => ?_)
              have bf_rd74 := BF.of om.le
              rw [List.drop_zero] at rd74
              refine LR.nil (hT18 _ ?_)
              -- call selvage/name.Fits
              refine LR.call rfl Tryd.call10 rfl (Wd.g rfl rfl rfl) rfl rfl (fits_ct ms[i] _ (ms.take i) mx_ w0 _ mx (bf_mx.mono (by omega)) rd74.any (hxm _ (List.getElem_mem hil4)) (fun x h => hxm x (List.mem_of_mem_take h))) (fun v75 H75 r75 => ?_)
              obtain ⟨rfl, hs75⟩ := r75
              replace mx := mx.nw hs75
              replace hl := hl.nw hs75
              replace om := om.nw hs75
              replace rd74 := rd74.nw hs75
              replace hm0 := hm0.tr hs75
              replace hlm3 := hlm3.tr hs75
              have hz9 := hs75.size
              refine LR.v (Y.eql rfl rfl rfl) (Wd.g rfl rfl rfl) rfl rfl ?_
              refine LR.v (Y.pick_t rfl rfl rfl) (Wd.u rfl) rfl rfl ?_
              refine LR.v (Y.assign rfl rfl) (Wd.u rfl) rfl rfl ?_
              refine LR.nil ?_
              refine hK33 _ _ ?_
              refine hK32 _ _ ?_
              refine CW.region ?_
              refine LR.v (Y.move rfl rfl) (Wd.u rfl) rfl rfl ?_
              refine LR.v (Y.addi rfl rfl rfl (by omega)) (Wd.u rfl) rfl rfl ?_
              refine LR.v (Y.assign rfl rfl) (Wd.u rfl) rfl rfl ?_
              refine LR.nil ?_
              refine QN.sub (hN29 (i + 1, decide (fitsL ms[i] (ms.take i) = 0)) _ ?_ ?_) ⟨rfl, rfl, rfl, (iv (by omega)), trivial⟩
              · exact ⟨(by omega), (by rw [okAll_succ hil4, ← hb, g67, Bool.true_and]), hlm3⟩
              · first | omega | (simp only; omega) | (simp; omega)
            ·
              refine LR.gs rfl rfl rfl rfl rfl rfl ?_
              refine LR.gs rfl rfl rfl rfl rfl rfl ?_
              refine LR.gs rfl rfl rfl rfl rfl rfl ?_
              refine LR.gs rfl rfl rfl rfl rfl rfl ?_
              refine LR.gs rfl rfl rfl rfl rfl rfl ?_
              refine LR.gs rfl rfl rfl rfl rfl rfl ?_
              refine LR.gs rfl rfl rfl rfl rfl rfl ?_
              refine LR.nil (hT18 _ ?_)
              refine LR.gs rfl rfl rfl rfl rfl rfl ?_
              refine LR.gs rfl rfl rfl rfl rfl rfl ?_
              refine LR.v (Y.pick_f rfl rfl rfl) (Wd.u rfl) rfl rfl ?_
              refine LR.v (Y.assign rfl rfl) (Wd.u rfl) rfl rfl ?_
              refine LR.nil ?_
              refine hK33 _ _ ?_
              refine hK32 _ _ ?_
              refine CW.region ?_
              refine LR.v (Y.move rfl rfl) (Wd.u rfl) rfl rfl ?_
              refine LR.v (Y.addi rfl rfl rfl (by omega)) (Wd.u rfl) rfl rfl ?_
              refine LR.v (Y.assign rfl rfl) (Wd.u rfl) rfl rfl ?_
              refine LR.nil ?_
              refine QN.sub (hN29 (i + 1, false) _ ?_ ?_) ⟨rfl, rfl, rfl, (iv (by omega)), trivial⟩
              · exact ⟨(by omega), (by rw [okAll_succ hil4, ← hb, g67, Bool.false_and]), hlm3⟩
              · first | omega | (simp only; omega) | (simp; omega)
          ·
            have hil5 : i = ms.length := by omega
            refine CW.exit (hE30 (.exit 4) nofun _ _ (hE29 (.exit 4) nofun _ _ (hX28 _ _ ?_)))
            refine hK26 _ _ ?_
            refine CW.seq (fun K34 hK34 hE34 => ?_)
            refine CW.region ?_
            refine LR.v (Y.move rfl rfl) (Wd.u rfl) rfl rfl ?_
            refine LR.v (Y.move rfl rfl) (Wd.u rfl) rfl rfl ?_
            refine LR.v ((Y.beql rfl Tryd.underlying4 rfl rfl).isT (by rw [ha, hb, hil, hil5, hml, ← hms]; exact okAll_rot hkl)) (Wd.u rfl) rfl rfl ?_
            refine LR.v (Y.assign rfl rfl) (Wd.u rfl) rfl rfl ?_
            refine LR.nil ?_
            refine hK34 _ _ ?_
            refine CW.ret (hret .ret (.inr rfl) _ _ _ (res1 rfl rfl) ?_)
            exact ⟨rfl, hm0⟩

set_option maxHeartbeats 4000000 in
theorem nameParts_ct (v : Value) (l : List (List UInt8)) (mx_ : Int) (w0 : World) (H0 : Heap)
    (mx : MX mx_ H0) (bf_mx : BF (fun b => b = 0) H0.size) (hl : RdT H0 fS 1 v l) (hx : ∀ x ∈ l, x.length ≤ 140737488355328) :
    Ct Tryd.prog w0 5 #[v] H0 (fun r H2 => r = .bool true ∧ Nw H0 H2) := by
  refine Ct.enter (args := [v]) Tryd.func5 rfl rfl rfl ?_
  intro Q0 hret
  have hm0 : Nw H0 H0 := Mo.refl _ _
  replace hl := hl.bnd
  have bf_hl := Rd.bf hl
  have hll := hl.len
  refine CW.seq (fun K1 hK1 hE1 => ?_)
  refine CW.region ?_
  refine LR.v (Y.assign rfl rfl) (Wd.u rfl) rfl rfl ?_
  refine LR.nil ?_
  refine hK1 _ _ ?_
  refine CW.seq (fun K2 hK2 hE2 => ?_)
  refine CW.seq (fun K3 hK3 hE3 => ?_)
  refine CW.region ?_
  -- call selvage/selvagelaw9.known
  refine LR.call rfl Tryd.call7 rfl (Wd.u rfl) rfl rfl (known_ct mx_ w0 _ mx bf_mx) (fun v10 H10 r10 => ?_)
  obtain ⟨rfl, hs10⟩ := r10
  replace mx := mx.nw hs10
  replace hl := hl.nw hs10
  replace hm0 := hm0.tr hs10
  have hz1 := hs10.size
  refine LR.v (Y.not rfl rfl) (Wd.u rfl) rfl rfl ?_
  refine LR.nil ?_
  refine hK3 _ _ ?_
  refine CW.cond_f rfl ?_
  refine CW.skip ?_
  refine hK2 _ _ ?_
  refine CW.seq (fun K4 hK4 hE4 => ?_)
  refine CW.region ?_
  refine LR.v (Y.assign rfl rfl) (Wd.u rfl) rfl rfl ?_
  refine LR.nil ?_
  refine hK4 _ _ ?_
  refine CW.seq (fun K5 hK5 hE5 => ?_)
  refine CW.region ?_
  refine LR.v (Y.move rfl rfl) (Wd.u rfl) rfl rfl ?_
  refine LR.v (Y.len hl rfl Tryd.runUnderlying27 rfl) (Wd.u rfl) rfl rfl ?_
  refine LR.v (Y.gtr rfl rfl rfl) (Wd.u rfl) rfl rfl ?_
  refine LR.v (Y.assign rfl rfl) (Wd.u rfl) rfl rfl ?_
  refine LR.nil ?_
  refine hK5 _ _ ?_
  refine CW.cut (fun (s_ : (List UInt8) × (Bool)) => match s_ with | (sB, gd) => [(0, v), (3, Str sB), (4, .bool gd)])
    (fun (s_ : (List UInt8) × (Bool)) (H : Heap) => match s_ with | (sB, gd) => (sB = joinP (l.take 20)) ∧ (gd = true ↔ (l ≠ [] ∧ ∀ x ∈ l.take 20, noSl x ∧ chk x = 0)) ∧ (∀ x ∈ l.take 20, x.length ≤ 100) ∧ Nw H10 H) (fun K6 hK6 hE6 => ?_) ?_
  ·
    have hcm6 : Nw H10 H10 := Mo.refl _ _
    refine CW.seq (fun K7 hK7 hE7 => ?_)
    refine CW.region ?_
    refine LR.v (Y.assign rfl rfl) (Wd.u rfl) rfl rfl ?_
    refine LR.nil ?_
    refine hK7 _ _ ?_
    refine CW.block (fun K8 hK8 hX8 hE8 => ?_)
    refine CW.loop (fun (s_ : (Nat) × (List UInt8) × (Bool)) => match s_ with | (i, sB, gd) => [(0, v), (3, Str sB), (4, .bool gd), (5, .int .i64 i)])
      (fun (s_ : (Nat) × (List UInt8) × (Bool)) (H : Heap) => match s_ with | (i, sB, gd) => (i ≤ l.length ∧ i ≤ 20) ∧ (sB = joinP (l.take i)) ∧ (gd = true ↔ (l ≠ [] ∧ ∀ x ∈ l.take i, noSl x ∧ chk x = 0)) ∧ (∀ x ∈ l.take i, x.length ≤ 100) ∧ Nw H10 H)
      (fun (s_ : (Nat) × (List UInt8) × (Bool)) => match s_ with | (i, sB, gd) => 20 - i) (0, [], decide (0 < l.length)) ⟨rfl, rfl, (congrArg some (bdec (by omega))), rfl, trivial⟩ ?_ ?_
    ·
      exact ⟨(by omega), rfl, (by rw [decide_eq_true_eq, List.length_pos_iff]; simp), (fun x h => by simp at h), Mo.refl _ _⟩
    rintro ⟨i, sB, gd⟩ HL1 hI1 K9 hN9 hE9
    obtain ⟨hi, hs, hg, hb, hlm1⟩ := hI1
    replace mx := mx.nw hlm1
    replace hl := hl.nw hlm1
    replace hm0 := hm0.tr hlm1
    replace hcm6 := hcm6.tr hlm1
    have hz2 := hlm1.size
    refine CW.seq (fun K10 hK10 hE10 => ?_)
    refine CW.seq (fun K11 hK11 hE11 => ?_)
    refine CW.region ?_
    refine LR.v (Y.move rfl rfl) (Wd.u rfl) rfl rfl ?_
    refine LR.v (Y.move rfl rfl) (Wd.u rfl) rfl rfl ?_
    refine LR.v (Y.len hl rfl Tryd.runUnderlying27 rfl) (Wd.u rfl) rfl rfl ?_
    refine LR.v (Y.lss rfl rfl rfl) (Wd.u rfl) rfl rfl ?_
    refine LR.v (Y.move rfl rfl) (Wd.u rfl) rfl rfl ?_
    refine LR.splitp (d := 19) rfl (fun g19 => ?_) (fun g19 => ?_)
    ·
      refine LR.v (Y.move rfl rfl) (Wd.g rfl rfl rfl) rfl rfl ?_
      refine LR.v (Y.lss rfl rfl rfl) (Wd.g rfl rfl rfl) rfl rfl ?_
      refine LR.v (Y.pick_t rfl rfl rfl) (Wd.u rfl) rfl rfl ?_
      refine LR.nil ?_
      refine hK11 _ _ ?_
      refine CW.condp rfl (fun c22 => ?_) (fun c22 => ?_)
      ·
        have hil : i < l.length := by omega
        refine CW.skip ?_
        refine hK10 _ _ ?_
        refine CW.seq (fun K12 hK12 hE12 => ?_)
        refine CW.block (fun K13 hK13 hX13 hE13 => ?_)
        refine CW.seq (fun K14 hK14 hE14 => ?_)
        refine CW.seq (fun K15 hK15 hE15 => ?_)
        refine CW.region ?_
        refine LR.v (Y.move rfl rfl) (Wd.u rfl) rfl rfl ?_
        refine LR.v (Y.move rfl rfl) (Wd.u rfl) rfl rfl ?_
        refine LR.e (g := fun ad => .pointer (some ad)) (Y.indexAddrF hl (i) rfl Tryd.runUnderlying27 Tryd.sizeOf9 rfl rfl (by first | rfl | omega) (by first | omega | (simp; omega) | (simp; done))) (Wd.u rfl) rfl rfl (fun ad27 pt27 => ?_)
        have bf_pt27 := bf_hl
        refine LR.v (Y.load1 pt27.pt rfl Tryd.isAgg9 rfl) (Wd.u rfl) rfl rfl ?_
        refine LR.v (Y.slen rfl Tryd.runUnderlying9 rfl) (Wd.u rfl) rfl rfl ?_
        refine LR.v (Y.gtr rfl rfl rfl) (Wd.u rfl) rfl rfl ?_
        refine LR.nil ?_
        refine hK15 _ _ ?_
        refine CW.condp rfl (fun c30 => ?_) (fun c30 => ?_)
        ·
          refine CW.seq (fun K16 hK16 hE16 => ?_)
          refine CW.region ?_
          refine LR.v (Y.assign rfl rfl) (Wd.u rfl) rfl rfl ?_
          refine LR.nil ?_
          refine hK16 _ _ ?_
          refine CW.ret (hE14 .ret nofun _ _ (hE13 .ret nofun (by simp) _ _ (hE12 .ret nofun _ _ (hE9 .ret nofun _ _ (hE8 .ret nofun (by simp) _ _ (hE6 .ret nofun _ _ (hret .ret (.inr rfl) _ _ _ (res1 rfl rfl) ?_)))))))
          exact ⟨rfl, hm0⟩
        ·
          refine CW.skip ?_
          refine hK14 _ _ ?_
          refine CW.cut (fun (sC : (List UInt8)) => [(0, v), (3, Str sC), (4, .bool gd), (5, .int .i64 i)])
            (fun (sC : (List UInt8)) (H : Heap) => (sC = if i = 0 then [] else sB ++ [47]) ∧ Nw HL1 H) (fun K17 hK17 hE17 => ?_) ?_
          ·
            have hcm17 : Nw HL1 HL1 := Mo.refl _ _
            refine CW.seq (fun K18 hK18 hE18 => ?_)
            refine CW.region ?_
            refine LR.v (Y.move rfl rfl) (Wd.u rfl) rfl rfl ?_
            refine LR.v (Y.gtr rfl rfl rfl) (Wd.u rfl) rfl rfl ?_
            refine LR.nil ?_
            refine hK18 _ _ ?_
            refine CW.condp rfl (fun c32 => ?_) (fun c32 => ?_)
            ·
              refine CW.region ?_
              have hjl := join_len hb
              rw [← hs, List.length_take] at hjl
              refine LR.v (Y.move rfl rfl) (Wd.u rfl) rfl rfl ?_
              refine LR.v (Y.sadd rfl rfl rfl (by simp; omega)) (Wd.u rfl) rfl rfl ?_
              refine LR.v (Y.assign rfl rfl) (Wd.u rfl) rfl rfl ?_
              refine LR.nil ?_
              refine QN.sub (hK17 (sB ++ [47]) _ ?_) ⟨rfl, rfl, rfl, (iv (by omega)), trivial⟩
              exact ⟨(by rw [if_neg (by omega)]), hcm17⟩
            ·
              refine CW.skip ?_
              refine QN.sub (hK17 sB _ ?_) ⟨rfl, rfl, rfl, (iv (by omega)), trivial⟩
              exact ⟨(by have h0 : i = 0 := (by omega); rw [if_pos h0, hs, h0]; rfl), hcm17⟩
          ·
            intro sC Hcutc32 hIcutc32
            obtain ⟨hC, hlmcutc32⟩ := hIcutc32
            replace mx := mx.nw hlmcutc32
            replace hl := hl.nw hlmcutc32
            replace hm0 := hm0.tr hlmcutc32
            replace hcm6 := hcm6.tr hlmcutc32
            replace hlm1 := hlm1.tr hlmcutc32
            have hz3 := hlmcutc32.size
            refine CW.seq (fun K19 hK19 hE19 => ?_)
            refine CW.region ?_
            refine LR.v (Y.move rfl rfl) (Wd.u rfl) rfl rfl ?_
            refine LR.v (Y.move rfl rfl) (Wd.u rfl) rfl rfl ?_
            refine LR.v (Y.move rfl rfl) (Wd.u rfl) rfl rfl ?_
            have hjl := join_len hb
            rw [← hs, List.length_take] at hjl
            have hcl : sC.length ≤ sB.length + 1 := by rw [hC]; split <;> simp
            have hs2 : sC ++ l[i] = joinP (l.take (i + 1)) := by
              rw [List.take_succ_eq_append_getElem hil, hC]
              by_cases h0 : i = 0
              · subst h0; simp [joinP]
              · rw [if_neg h0, joinP_snoc _ (fun e => by have h9 : (l.take i).length = 0 := (by rw [e]; rfl); rw [List.length_take] at h9; omega), hs]
            have hb2 : ∀ x ∈ l.take (i + 1), x.length ≤ 100 := (mem_take_succ2 hil).2 ⟨hb, by omega⟩
            have hx100 : l[i].length ≤ 100 := by omega
            refine LR.e (g := fun ad => .pointer (some ad)) (Y.indexAddrF hl (i) rfl Tryd.runUnderlying27 Tryd.sizeOf9 rfl rfl (by first | rfl | omega) (by first | omega | (simp; omega) | (simp; done))) (Wd.u rfl) rfl rfl (fun ad38 pt38 => ?_)
            have bf_pt38 := bf_hl
            refine LR.v (Y.load1 pt38.pt rfl Tryd.isAgg9 rfl) (Wd.u rfl) rfl rfl ?_
            refine LR.v (Y.sadd rfl rfl rfl (by omega)) (Wd.u rfl) rfl rfl ?_
            refine LR.v (Y.assign rfl rfl) (Wd.u rfl) rfl rfl ?_
            refine LR.nil ?_
            refine hK19 _ _ ?_
            refine CW.seq (fun K20 hK20 hE20 => ?_)
            refine CW.seq (fun K21 hK21 hE21 => ?_)
            refine CW.region ?_
            refine LR.v (Y.assign rfl rfl) (Wd.u rfl) rfl rfl ?_
            refine LR.nil ?_
            refine hK21 _ _ ?_
            refine CW.block (fun K22 hK22 hX22 hE22 => ?_)
            refine CW.loop (fun (s_ : (Nat) × (Bool)) => match s_ with | (k, g2) => [(0, v), (3, Str (sC ++ l[i])), (4, .bool g2), (5, .int .i64 i), (6, .int .i64 k)])
              (fun (s_ : (Nat) × (Bool)) (H : Heap) => match s_ with | (k, g2) => (k ≤ l[i].length) ∧ (g2 = true ↔ (gd = true ∧ ∀ c ∈ l[i].take k, c.toNat ≠ 47)) ∧ Nw Hcutc32 H)
              (fun (s_ : (Nat) × (Bool)) => match s_ with | (k, g2) => l[i].length - k) (0, gd) ⟨rfl, rfl, rfl, rfl, rfl, trivial⟩ ?_ ?_
            ·
              exact ⟨(by omega), (by simp), Mo.refl _ _⟩
            rintro ⟨k, g2⟩ HL2 hI2 K23 hN23 hE23
            obtain ⟨hk, hg2, hlm2⟩ := hI2
            replace mx := mx.nw hlm2
            replace hl := hl.nw hlm2
            replace hm0 := hm0.tr hlm2
            replace hcm6 := hcm6.tr hlm2
            replace hlm1 := hlm1.tr hlm2
            have hz4 := hlm2.size
            refine CW.seq (fun K24 hK24 hE24 => ?_)
            refine CW.seq (fun K25 hK25 hE25 => ?_)
            refine CW.region ?_
            refine LR.v (Y.move rfl rfl) (Wd.u rfl) rfl rfl ?_
            refine LR.v (Y.move rfl rfl) (Wd.u rfl) rfl rfl ?_
            refine LR.v (Y.move rfl rfl) (Wd.u rfl) rfl rfl ?_
            refine LR.e (g := fun ad => .pointer (some ad)) (Y.indexAddrF hl (i) rfl Tryd.runUnderlying27 Tryd.sizeOf9 rfl rfl (by first | rfl | omega) (by first | omega | (simp; omega) | (simp; done))) (Wd.u rfl) rfl rfl (fun ad44 pt44 => ?_)
            have bf_pt44 := bf_hl
            refine LR.v (Y.load1 pt44.pt rfl Tryd.isAgg9 rfl) (Wd.u rfl) rfl rfl ?_
            refine LR.v (Y.slen rfl Tryd.runUnderlying9 rfl) (Wd.u rfl) rfl rfl ?_
            refine LR.v (Y.lss rfl rfl rfl) (Wd.u rfl) rfl rfl ?_
            refine LR.nil ?_
            refine hK25 _ _ ?_
            refine CW.condp rfl (fun c47 => ?_) (fun c47 => ?_)
            ·
              have hkl : k < l[i].length := by omega
              refine CW.skip ?_
              refine hK24 _ _ ?_
              refine CW.seq (fun K26 hK26 hE26 => ?_)
              refine CW.block (fun K27 hK27 hX27 hE27 => ?_)
              refine CW.region ?_
              refine LR.v (Y.move rfl rfl) (Wd.u rfl) rfl rfl ?_
              refine LR.v (Y.move rfl rfl) (Wd.u rfl) rfl rfl ?_
              refine LR.split (d := 51) rfl (fun g51 => ?_) (fun g51 => ?_)
              ·
                refine LR.v (Y.move rfl rfl) (Wd.g rfl rfl rfl) rfl rfl ?_
                refine LR.v (Y.move rfl rfl) (Wd.g rfl rfl rfl) rfl rfl ?_
                refine LR.e (g := fun ad => .pointer (some ad)) (Y.indexAddrF hl (i) rfl Tryd.runUnderlying27 Tryd.sizeOf9 rfl rfl (by first | rfl | omega) (by first | omega | (simp; omega) | (simp; done))) (Wd.g rfl rfl rfl) rfl rfl (fun ad54 pt54 => ?_)
                have bf_pt54 := bf_hl
                refine LR.v (Y.load1 pt54.pt rfl Tryd.isAgg9 rfl) (Wd.g rfl rfl rfl) rfl rfl ?_
                refine LR.v (Y.move rfl rfl) (Wd.g rfl rfl rfl) rfl rfl ?_
                refine LR.v (Y.sindex (k) rfl Tryd.runUnderlying9 rfl rfl (by first | rfl | omega) (by omega)) (Wd.g rfl rfl rfl) rfl rfl ?_
                refine LR.v (Y.neq rfl rfl rfl) (Wd.g rfl rfl rfl) rfl rfl ?_
                refine LR.v (Y.pick_t rfl rfl rfl) (Wd.u rfl) rfl rfl ?_
                refine LR.v (Y.assign rfl rfl) (Wd.u rfl) rfl rfl ?_
                refine LR.nil ?_
                refine hK27 _ _ ?_
                refine hK26 _ _ ?_
                refine CW.region ?_
                refine LR.v (Y.move rfl rfl) (Wd.u rfl) rfl rfl ?_
                refine LR.v (Y.addi rfl rfl rfl (by omega)) (Wd.u rfl) rfl rfl ?_
                refine LR.v (Y.assign rfl rfl) (Wd.u rfl) rfl rfl ?_
                refine LR.nil ?_
                refine QN.sub (hN23 (k + 1, decide ((l[i][k].toNat : Int) ≠ 47)) _ ?_ ?_) ⟨rfl, rfl, rfl, (iv (by omega)), (iv (by omega)), trivial⟩
                · exact ⟨(by omega), (by rw [decide_eq_true_eq, mem_take_succ2 hkl]; obtain ⟨q1, q2⟩ := hg2.1 g51; exact ⟨fun h => ⟨q1, q2, by omega⟩, fun h => by have := h.2.2; omega⟩), hlm2⟩
                · first | omega | (simp only; omega) | (simp; omega)
              ·
                refine LR.gs rfl rfl rfl rfl rfl rfl ?_
                refine LR.gs rfl rfl rfl rfl rfl rfl ?_
                refine LR.gs rfl rfl rfl rfl rfl rfl ?_
                refine LR.gs rfl rfl rfl rfl rfl rfl ?_
                refine LR.gs rfl rfl rfl rfl rfl rfl ?_
                refine LR.gs rfl rfl rfl rfl rfl rfl ?_
                refine LR.gs rfl rfl rfl rfl rfl rfl ?_
                refine LR.v (Y.pick_f rfl rfl rfl) (Wd.u rfl) rfl rfl ?_
                refine LR.v (Y.assign rfl rfl) (Wd.u rfl) rfl rfl ?_
                refine LR.nil ?_
                refine hK27 _ _ ?_
                refine hK26 _ _ ?_
                refine CW.region ?_
                refine LR.v (Y.move rfl rfl) (Wd.u rfl) rfl rfl ?_
                refine LR.v (Y.addi rfl rfl rfl (by omega)) (Wd.u rfl) rfl rfl ?_
                refine LR.v (Y.assign rfl rfl) (Wd.u rfl) rfl rfl ?_
                refine LR.nil ?_
                refine QN.sub (hN23 (k + 1, false) _ ?_ ?_) ⟨rfl, rfl, rfl, (iv (by omega)), (iv (by omega)), trivial⟩
                · exact ⟨(by omega), (by rw [mem_take_succ2 hkl]; exact ⟨fun h => (by cases h), fun h => by have := hg2.2 ⟨h.1, h.2.1⟩; rw [g51] at this; cases this⟩), hlm2⟩
                · first | omega | (simp only; omega) | (simp; omega)
            ·
              have hkl : k = l[i].length := by omega
              rw [hkl, List.take_length] at hg2
              refine CW.exit (hE24 (.exit 2) nofun _ _ (hE23 (.exit 2) nofun _ _ (hX22 _ _ ?_)))
              refine hK20 _ _ ?_
              refine CW.region ?_
              refine LR.v (Y.move rfl rfl) (Wd.u rfl) rfl rfl ?_
              refine LR.v (Y.move rfl rfl) (Wd.u rfl) rfl rfl ?_
              refine LR.split (d := 61) rfl (fun g61 => ?_) (fun g61 => ?_)
              ·
                refine LR.v (Y.move rfl rfl) (Wd.g rfl rfl rfl) rfl rfl ?_
                refine LR.v (Y.move rfl rfl) (Wd.g rfl rfl rfl) rfl rfl ?_
                refine LR.e (g := fun ad => .pointer (some ad)) (Y.indexAddrF hl (i) rfl Tryd.runUnderlying27 Tryd.sizeOf9 rfl rfl (by first | rfl | omega) (by first | omega | (simp; omega) | (simp; done))) (Wd.g rfl rfl rfl) rfl rfl (fun ad64 pt64 => ?_)
                have bf_pt64 := bf_hl
                refine LR.v (Y.load1 pt64.pt rfl Tryd.isAgg9 rfl) (Wd.g rfl rfl rfl) rfl rfl ?_
                -- call selvage/name.Check
                refine LR.call rfl Tryd.call8 rfl (Wd.g rfl rfl rfl) rfl rfl (chk_ct l[i] mx_ w0 _ mx (bf_mx.mono (by omega)) (by omega)) (fun v66 H66 r66 => ?_)
                obtain ⟨rfl, hs66⟩ := r66
                replace mx := mx.nw hs66
                replace hl := hl.nw hs66
                replace pt64 := pt64.nw hs66
                replace hm0 := hm0.tr hs66
                replace hcm6 := hcm6.tr hs66
                replace hlm1 := hlm1.tr hs66
                have hz5 := hs66.size
                refine LR.v (Y.eql rfl rfl rfl) (Wd.g rfl rfl rfl) rfl rfl ?_
                refine LR.v (Y.pick_t rfl rfl rfl) (Wd.u rfl) rfl rfl ?_
                refine LR.v (Y.assign rfl rfl) (Wd.u rfl) rfl rfl ?_
                refine LR.nil ?_
                refine hK13 _ _ ?_
                refine hK12 _ _ ?_
                refine CW.region ?_
                refine LR.v (Y.move rfl rfl) (Wd.u rfl) rfl rfl ?_
                refine LR.v (Y.addi rfl rfl rfl (by omega)) (Wd.u rfl) rfl rfl ?_
                refine LR.v (Y.assign rfl rfl) (Wd.u rfl) rfl rfl ?_
                refine LR.nil ?_
                refine QN.sub (hN9 (i + 1, sC ++ l[i], decide (chk l[i] = 0)) _ ?_ ?_) ⟨rfl, rfl, rfl, (iv (by omega)), trivial⟩
                · exact ⟨(by omega), hs2, (by rw [decide_eq_true_eq, mem_take_succ2 hil]; obtain ⟨q1, q2⟩ := (hg2 .. ).1 g61; obtain ⟨r1, r2⟩ := hg.1 q1; exact ⟨fun h => ⟨r1, r2, q2, h⟩, fun h => h.2.2.2⟩), hb2, hlm1⟩
                · first | omega | (simp only; omega) | (simp; omega)
              ·
                refine LR.gs rfl rfl rfl rfl rfl rfl ?_
                refine LR.gs rfl rfl rfl rfl rfl rfl ?_
                refine LR.gs rfl rfl rfl rfl rfl rfl ?_
                refine LR.gs rfl rfl rfl rfl rfl rfl ?_
                refine LR.gs rfl rfl rfl rfl rfl rfl ?_
                refine LR.gs rfl rfl rfl rfl rfl rfl ?_
                refine LR.v (Y.pick_f rfl rfl rfl) (Wd.u rfl) rfl rfl ?_
                refine LR.v (Y.assign rfl rfl) (Wd.u rfl) rfl rfl ?_
                refine LR.nil ?_
                refine hK13 _ _ ?_
                refine hK12 _ _ ?_
                refine CW.region ?_
                refine LR.v (Y.move rfl rfl) (Wd.u rfl) rfl rfl ?_
                refine LR.v (Y.addi rfl rfl rfl (by omega)) (Wd.u rfl) rfl rfl ?_
                refine LR.v (Y.assign rfl rfl) (Wd.u rfl) rfl rfl ?_
                refine LR.nil ?_
                refine QN.sub (hN9 (i + 1, sC ++ l[i], false) _ ?_ ?_) ⟨rfl, rfl, rfl, (iv (by omega)), trivial⟩
                · exact ⟨(by omega), hs2, (by rw [mem_take_succ2 hil]; exact ⟨fun h => (by cases h), fun h => by have := hg2.2 ⟨hg.2 ⟨h.1, h.2.1⟩, h.2.2.1⟩; rw [g61] at this; cases this⟩), hb2, hlm1⟩
                · first | omega | (simp only; omega) | (simp; omega)
      ·
        refine CW.exit (hE10 (.exit 0) nofun _ _ (hE9 (.exit 0) nofun _ _ (hX8 _ _ ?_)))
        have htk : l.take i = l.take 20 := by
          rcases Nat.lt_or_ge i 20 with h | h
          · rw [List.take_of_length_le (by omega), List.take_of_length_le (by omega)]
          · rw [show i = 20 by omega]
        rw [htk] at hs hg hb
        refine QN.sub (hK6 (sB, gd) _ ?_) ⟨rfl, rfl, rfl, trivial⟩
        exact ⟨hs, hg, hb, hcm6⟩
    ·
      refine LR.gs rfl rfl rfl rfl rfl rfl ?_
      refine LR.gs rfl rfl rfl rfl rfl rfl ?_
      refine LR.v (Y.pick_f rfl rfl rfl) (Wd.u rfl) rfl rfl ?_
      refine LR.nil ?_
      refine hK11 _ _ ?_
      refine CW.cond_f rfl ?_
      refine CW.exit (hE10 (.exit 0) nofun _ _ (hE9 (.exit 0) nofun _ _ (hX8 _ _ ?_)))
      have htk : l.take i = l.take 20 := by
        rcases Nat.lt_or_ge i 20 with h | h
        · rw [List.take_of_length_le (by omega), List.take_of_length_le (by omega)]
        · rw [show i = 20 by omega]
      rw [htk] at hs hg hb
      refine QN.sub (hK6 (sB, gd) _ ?_) ⟨rfl, rfl, rfl, trivial⟩
      exact ⟨hs, hg, hb, hcm6⟩
  ·
    rintro ⟨sB, gd⟩ Hcut0 hIcut0
    obtain ⟨hs, hg, hb, hlmcut0⟩ := hIcut0
    replace mx := mx.nw hlmcut0
    replace hl := hl.nw hlmcut0
    replace hm0 := hm0.tr hlmcut0
    have hz6 := hlmcut0.size
    refine CW.seq (fun K28 hK28 hE28 => ?_)
    refine CW.region ?_
    refine LR.v (Y.assign rfl rfl) (Wd.u rfl) rfl rfl ?_
    refine LR.nil ?_
    refine hK28 _ _ ?_
    refine CW.seq (fun K29 hK29 hE29 => ?_)
    refine CW.seq (fun K30 hK30 hE30 => ?_)
    refine CW.region ?_
    refine LR.v (Y.assign rfl rfl) (Wd.u rfl) rfl rfl ?_
    refine LR.nil ?_
    refine hK30 _ _ ?_
    refine CW.block (fun K31 hK31 hX31 hE31 => ?_)
    refine CW.loop (fun (s_ : (Nat) × (Bool)) => match s_ with | (i, sl) => [(0, v), (3, Str sB), (4, .bool gd), (7, .bool sl), (8, .int .i64 i)])
      (fun (s_ : (Nat) × (Bool)) (H : Heap) => match s_ with | (i, sl) => (i ≤ l.length) ∧ (sl = false ↔ ∀ x ∈ l.take i, noSl x) ∧ Nw Hcut0 H)
      (fun (s_ : (Nat) × (Bool)) => match s_ with | (i, sl) => l.length - i) (0, false) ⟨rfl, rfl, rfl, rfl, rfl, trivial⟩ ?_ ?_
    ·
      exact ⟨(by omega), (by simp), Mo.refl _ _⟩
    rintro ⟨i, sl⟩ HL3 hI3 K32 hN32 hE32
    obtain ⟨hi3, hsl, hlm3⟩ := hI3
    replace mx := mx.nw hlm3
    replace hl := hl.nw hlm3
    replace hm0 := hm0.tr hlm3
    have hz7 := hlm3.size
    refine CW.seq (fun K33 hK33 hE33 => ?_)
    refine CW.seq (fun K34 hK34 hE34 => ?_)
    refine CW.region ?_
    refine LR.v (Y.move rfl rfl) (Wd.u rfl) rfl rfl ?_
    refine LR.v (Y.move rfl rfl) (Wd.u rfl) rfl rfl ?_
    refine LR.v (Y.len hl rfl Tryd.runUnderlying27 rfl) (Wd.u rfl) rfl rfl ?_
    refine LR.v (Y.lss rfl rfl rfl) (Wd.u rfl) rfl rfl ?_
    refine LR.nil ?_
    refine hK34 _ _ ?_
    refine CW.condp rfl (fun c72 => ?_) (fun c72 => ?_)
    ·
      have hil3 : i < l.length := by omega
      have hxi := hx l[i] (List.getElem_mem hil3)
      refine CW.skip ?_
      refine hK33 _ _ ?_
      refine CW.seq (fun K35 hK35 hE35 => ?_)
      refine CW.block (fun K36 hK36 hX36 hE36 => ?_)
      refine CW.seq (fun K37 hK37 hE37 => ?_)
      refine CW.region ?_
      refine LR.v (Y.assign rfl rfl) (Wd.u rfl) rfl rfl ?_
      refine LR.nil ?_
      refine hK37 _ _ ?_
      refine CW.block (fun K38 hK38 hX38 hE38 => ?_)
      refine CW.loop (fun (s_ : (Nat) × (Bool)) => match s_ with | (k, sl2) => [(0, v), (3, Str sB), (4, .bool gd), (7, .bool sl2), (8, .int .i64 i), (9, .int .i64 k)])
        (fun (s_ : (Nat) × (Bool)) (H : Heap) => match s_ with | (k, sl2) => (k ≤ l[i].length) ∧ (sl2 = false ↔ (sl = false ∧ ∀ c ∈ l[i].take k, c.toNat ≠ 47)) ∧ Nw HL3 H)
        (fun (s_ : (Nat) × (Bool)) => match s_ with | (k, sl2) => l[i].length - k) (0, sl) ⟨rfl, rfl, rfl, rfl, rfl, rfl, trivial⟩ ?_ ?_
      ·
        exact ⟨(by omega), (by simp), Mo.refl _ _⟩
      rintro ⟨k, sl2⟩ HL4 hI4 K39 hN39 hE39
      obtain ⟨hk4, hsl2, hlm4⟩ := hI4
      replace mx := mx.nw hlm4
      replace hl := hl.nw hlm4
      replace hm0 := hm0.tr hlm4
      replace hlm3 := hlm3.tr hlm4
      have hz8 := hlm4.size
      refine CW.seq (fun K40 hK40 hE40 => ?_)
      refine CW.seq (fun K41 hK41 hE41 => ?_)
      refine CW.region ?_
      refine LR.v (Y.move rfl rfl) (Wd.u rfl) rfl rfl ?_
      refine LR.v (Y.move rfl rfl) (Wd.u rfl) rfl rfl ?_
      refine LR.v (Y.move rfl rfl) (Wd.u rfl) rfl rfl ?_
      refine LR.e (g := fun ad => .pointer (some ad)) (Y.indexAddrF hl (i) rfl Tryd.runUnderlying27 Tryd.sizeOf9 rfl rfl (by first | rfl | omega) (by first | omega | (simp; omega) | (simp; done))) (Wd.u rfl) rfl rfl (fun ad78 pt78 => ?_)
      have bf_pt78 := bf_hl
      refine LR.v (Y.load1 pt78.pt rfl Tryd.isAgg9 rfl) (Wd.u rfl) rfl rfl ?_
      refine LR.v (Y.slen rfl Tryd.runUnderlying9 rfl) (Wd.u rfl) rfl rfl ?_
      refine LR.v (Y.lss rfl rfl rfl) (Wd.u rfl) rfl rfl ?_
      refine LR.nil ?_
      refine hK41 _ _ ?_
      refine CW.condp rfl (fun c81 => ?_) (fun c81 => ?_)
      ·
        have hkl4 : k < l[i].length := by omega
        refine CW.skip ?_
        refine hK40 _ _ ?_
        refine CW.seq (fun K42 hK42 hE42 => ?_)
        refine CW.block (fun K43 hK43 hX43 hE43 => ?_)
        refine CW.region ?_
        refine LR.v (Y.move rfl rfl) (Wd.u rfl) rfl rfl ?_
        refine LR.v (Y.move rfl rfl) (Wd.u rfl) rfl rfl ?_
        refine LR.split (d := 85) rfl (fun g85 => ?_) (fun g85 => ?_)
        ·
          refine LR.gs rfl rfl rfl rfl rfl rfl ?_
          refine LR.gs rfl rfl rfl rfl rfl rfl ?_
          refine LR.gs rfl rfl rfl rfl rfl rfl ?_
          refine LR.gs rfl rfl rfl rfl rfl rfl ?_
          refine LR.gs rfl rfl rfl rfl rfl rfl ?_
          refine LR.gs rfl rfl rfl rfl rfl rfl ?_
          refine LR.gs rfl rfl rfl rfl rfl rfl ?_
          refine LR.v (Y.pick_t rfl rfl rfl) (Wd.u rfl) rfl rfl ?_
          refine LR.v (Y.assign rfl rfl) (Wd.u rfl) rfl rfl ?_
          refine LR.nil ?_
          refine hK43 _ _ ?_
          refine hK42 _ _ ?_
          refine CW.region ?_
          refine LR.v (Y.move rfl rfl) (Wd.u rfl) rfl rfl ?_
          refine LR.v (Y.addi rfl rfl rfl (by omega)) (Wd.u rfl) rfl rfl ?_
          refine LR.v (Y.assign rfl rfl) (Wd.u rfl) rfl rfl ?_
          refine LR.nil ?_
          refine QN.sub (hN39 (k + 1, true) _ ?_ ?_) ⟨rfl, rfl, rfl, rfl, (iv (by omega)), (iv (by omega)), trivial⟩
          · exact ⟨(by omega), (by rw [mem_take_succ2 hkl4]; exact ⟨fun h => (by cases h), fun h => by have := hsl2.2 ⟨h.1, h.2.1⟩; rw [g85] at this; cases this⟩), hlm4⟩
          · first | omega | (simp only; omega) | (simp; omega)
        ·
          refine LR.v (Y.move rfl rfl) (Wd.g rfl rfl rfl) rfl rfl ?_
          refine LR.v (Y.move rfl rfl) (Wd.g rfl rfl rfl) rfl rfl ?_
          refine LR.e (g := fun ad => .pointer (some ad)) (Y.indexAddrF hl (i) rfl Tryd.runUnderlying27 Tryd.sizeOf9 rfl rfl (by first | rfl | omega) (by first | omega | (simp; omega) | (simp; done))) (Wd.g rfl rfl rfl) rfl rfl (fun ad88 pt88 => ?_)
          have bf_pt88 := bf_hl
          refine LR.v (Y.load1 pt88.pt rfl Tryd.isAgg9 rfl) (Wd.g rfl rfl rfl) rfl rfl ?_
          refine LR.v (Y.move rfl rfl) (Wd.g rfl rfl rfl) rfl rfl ?_
          refine LR.v (Y.sindex (k) rfl Tryd.runUnderlying9 rfl rfl (by first | rfl | omega) (by omega)) (Wd.g rfl rfl rfl) rfl rfl ?_
          refine LR.v (Y.eql rfl rfl rfl) (Wd.g rfl rfl rfl) rfl rfl ?_
          refine LR.v (Y.pick_f rfl rfl rfl) (Wd.u rfl) rfl rfl ?_
          refine LR.v (Y.assign rfl rfl) (Wd.u rfl) rfl rfl ?_
          refine LR.nil ?_
          refine hK43 _ _ ?_
          refine hK42 _ _ ?_
          refine CW.region ?_
          refine LR.v (Y.move rfl rfl) (Wd.u rfl) rfl rfl ?_
          refine LR.v (Y.addi rfl rfl rfl (by omega)) (Wd.u rfl) rfl rfl ?_
          refine LR.v (Y.assign rfl rfl) (Wd.u rfl) rfl rfl ?_
          refine LR.nil ?_
          refine QN.sub (hN39 (k + 1, decide ((l[i][k].toNat : Int) = 47)) _ ?_ ?_) ⟨rfl, rfl, rfl, rfl, (iv (by omega)), (iv (by omega)), trivial⟩
          · exact ⟨(by omega), (by rw [decide_eq_false_iff_not, mem_take_succ2 hkl4]; obtain ⟨q1, q2⟩ := hsl2.1 g85; exact ⟨fun h => ⟨q1, q2, by omega⟩, fun h => by have := h.2.2; omega⟩), hlm4⟩
          · first | omega | (simp only; omega) | (simp; omega)
      ·
        have hkl5 : k = l[i].length := by omega
        rw [hkl5, List.take_length] at hsl2
        refine CW.exit (hE40 (.exit 6) nofun _ _ (hE39 (.exit 6) nofun _ _ (hX38 _ _ ?_)))
        refine hK36 _ _ ?_
        refine hK35 _ _ ?_
        refine CW.region ?_
        refine LR.v (Y.move rfl rfl) (Wd.u rfl) rfl rfl ?_
        refine LR.v (Y.addi rfl rfl rfl (by omega)) (Wd.u rfl) rfl rfl ?_
        refine LR.v (Y.assign rfl rfl) (Wd.u rfl) rfl rfl ?_
        refine LR.nil ?_
        refine QN.sub (hN32 (i + 1, sl2) _ ?_ ?_) ⟨rfl, rfl, rfl, rfl, (iv (by omega)), trivial⟩
        · exact ⟨(by omega), (by rw [mem_take_succ2 hil3, hsl2, hsl]; exact Iff.rfl), hlm3⟩
        · first | omega | (simp only; omega) | (simp; omega)
    ·
      rw [List.take_of_length_le (by omega)] at hsl
      have hjl := join_len hb
      rw [← hs, List.length_take] at hjl
      refine CW.exit (hE33 (.exit 4) nofun _ _ (hE32 (.exit 4) nofun _ _ (hX31 _ _ ?_)))
      refine hK29 _ _ ?_
      refine CW.seq (fun K44 hK44 hE44 => ?_)
      refine CW.region ?_
      refine LR.v (Y.move rfl rfl) (Wd.u rfl) rfl rfl ?_
      refine LR.v (Y.move rfl rfl) (Wd.u rfl) rfl rfl ?_
      refine LR.split (d := 95) rfl (fun g95 => ?_) (fun g95 => ?_)
      ·
        refine LR.gs rfl rfl rfl rfl rfl rfl ?_
        refine LR.gs rfl rfl rfl rfl rfl rfl ?_
        refine LR.gs rfl rfl rfl rfl rfl rfl ?_
        refine LR.v (Y.pick_t rfl rfl rfl) (Wd.u rfl) rfl rfl ?_
        refine LR.v (Y.move rfl rfl) (Wd.u rfl) rfl rfl ?_
        refine LR.gs rfl rfl rfl rfl rfl rfl ?_
        refine LR.gs rfl rfl rfl rfl rfl rfl ?_
        refine LR.gs rfl rfl rfl rfl rfl rfl ?_
        refine LR.gs rfl rfl rfl rfl rfl rfl ?_
        refine LR.gs rfl rfl rfl rfl rfl rfl ?_
        refine LR.gsu rfl rfl rfl rfl rfl ?_
        refine LR.gsu rfl rfl rfl rfl rfl ?_
        refine LR.gsu rfl rfl rfl rfl rfl ?_
        refine LR.gs rfl rfl rfl rfl rfl rfl ?_
        refine LR.gs rfl rfl rfl rfl rfl rfl ?_
        refine LR.v (Y.pick_t rfl rfl rfl) (Wd.u rfl) rfl rfl ?_
        refine LR.v (Y.assign rfl rfl) (Wd.u rfl) rfl rfl ?_
        refine LR.nil ?_
        refine hK44 _ _ ?_
        refine CW.ret (hret .ret (.inr rfl) _ _ _ (res1 rfl rfl) ?_)
        exact ⟨rfl, hm0⟩
      ·
        refine LR.v (Y.move rfl rfl) (Wd.g rfl rfl rfl) rfl rfl ?_
        refine LR.v (Y.len hl rfl Tryd.runUnderlying27 rfl) (Wd.g rfl rfl rfl) rfl rfl ?_
        refine LR.v (Y.gtr rfl rfl rfl) (Wd.g rfl rfl rfl) rfl rfl ?_
        refine LR.v (Y.pick_f rfl rfl rfl) (Wd.u rfl) rfl rfl ?_
        refine LR.v (Y.move rfl rfl) (Wd.u rfl) rfl rfl ?_
        refine LR.splitp (d := 100) rfl (fun g100 => ?_) (fun g100 => ?_)
        ·
          refine LR.gs rfl rfl rfl rfl rfl rfl ?_
          refine LR.gs rfl rfl rfl rfl rfl rfl ?_
          refine LR.gs rfl rfl rfl rfl rfl rfl ?_
          refine LR.gs rfl rfl rfl rfl rfl rfl ?_
          refine LR.gs rfl rfl rfl rfl rfl rfl ?_
          refine LR.gsu rfl rfl rfl rfl rfl ?_
          refine LR.gsu rfl rfl rfl rfl rfl ?_
          refine LR.gsu rfl rfl rfl rfl rfl ?_
          refine LR.gs rfl rfl rfl rfl rfl rfl ?_
          refine LR.gs rfl rfl rfl rfl rfl rfl ?_
          refine LR.v (Y.pick_t rfl rfl rfl) (Wd.u rfl) rfl rfl ?_
          refine LR.v (Y.assign rfl rfl) (Wd.u rfl) rfl rfl ?_
          refine LR.nil ?_
          refine hK44 _ _ ?_
          refine CW.ret (hret .ret (.inr rfl) _ _ _ (res1 rfl rfl) ?_)
          exact ⟨rfl, hm0⟩
        ·
          refine LR.v (Y.move rfl rfl) (Wd.g rfl rfl rfl) rfl rfl ?_
          have h20 : l.take 20 = l := List.take_of_length_le (by omega)
          rw [h20] at hs hg
          have hnl := hsl.1 g95
          have hjc := join_chk (l := l)
          rw [← hs] at hjc
          have hgd : gd = true ↔ (l ≠ [] ∧ ∀ x ∈ l, chk x = 0) := by rw [hg]; exact ⟨fun h => ⟨h.1, fun x hx => (h.2 x hx).2⟩, fun h => ⟨h.1, fun x hx => ⟨hnl x hx, h.2 x hx⟩⟩⟩
          rw [← hgd] at hjc
          -- call selvage/name.Check
          refine LR.call rfl Tryd.call8 rfl (Wd.g rfl rfl rfl) rfl rfl (chk_ct sB mx_ w0 _ mx (bf_mx.mono (by omega)) (by omega)) (fun v102 H102 r102 => ?_)
          obtain ⟨rfl, hs102⟩ := r102
          replace mx := mx.nw hs102
          replace hl := hl.nw hs102
          replace hm0 := hm0.tr hs102
          have hz9 := hs102.size
          refine LR.v (Y.eql rfl rfl rfl) (Wd.g rfl rfl rfl) rfl rfl ?_
          refine LR.v (Y.move rfl rfl) (Wd.g rfl rfl rfl) rfl rfl ?_
          refine LR.v (Y.move rfl rfl) (Wd.g rfl rfl rfl) rfl rfl ?_
          refine LR.split (d := 105) rfl (fun g105 => ?_) (fun g105 => ?_)
          ·
            refine LR.v (Y.move rfl rfl) (Wd.g rfl rfl rfl) rfl rfl ?_
            refine LR.v (Y.slen rfl Tryd.runUnderlying9 rfl) (Wd.g rfl rfl rfl) rfl rfl ?_
            refine LR.v (Y.leq rfl rfl rfl) (Wd.g rfl rfl rfl) rfl rfl ?_
            refine LR.v (Y.pick_t rfl rfl rfl) (Wd.g rfl rfl rfl) rfl rfl ?_
            refine LR.v ((Y.beql rfl Tryd.underlying4 rfl rfl).isT (by first | (exact decide_eq_decide.2 (by rw [hjc, g105]; simp; omega)) | (exact decide_eq_false (by rw [hjc, g105]; simp)))) (Wd.g rfl rfl rfl) rfl rfl ?_
            refine LR.v (Y.pick_f rfl rfl rfl) (Wd.u rfl) rfl rfl ?_
            refine LR.v (Y.assign rfl rfl) (Wd.u rfl) rfl rfl ?_
            refine LR.nil ?_
            refine hK44 _ _ ?_
            refine CW.ret (hret .ret (.inr rfl) _ _ _ (res1 rfl rfl) ?_)
            exact ⟨rfl, hm0⟩
          ·
            refine LR.gs rfl rfl rfl rfl rfl rfl ?_
            refine LR.gs rfl rfl rfl rfl rfl rfl ?_
            refine LR.gs rfl rfl rfl rfl rfl rfl ?_
            refine LR.v (Y.pick_f rfl rfl rfl) (Wd.g rfl rfl rfl) rfl rfl ?_
            refine LR.v ((Y.beql rfl Tryd.underlying4 rfl rfl).isT (by first | (exact decide_eq_decide.2 (by rw [hjc, g105]; simp; omega)) | (exact decide_eq_false (by rw [hjc, g105]; simp)))) (Wd.g rfl rfl rfl) rfl rfl ?_
            refine LR.v (Y.pick_f rfl rfl rfl) (Wd.u rfl) rfl rfl ?_
            refine LR.v (Y.assign rfl rfl) (Wd.u rfl) rfl rfl ?_
            refine LR.nil ?_
            refine hK44 _ _ ?_
            refine CW.ret (hret .ret (.inr rfl) _ _ _ (res1 rfl rfl) ?_)
            exact ⟨rfl, hm0⟩

end Go.Proofs.YthkhojiodekccaaDoor.NamF
