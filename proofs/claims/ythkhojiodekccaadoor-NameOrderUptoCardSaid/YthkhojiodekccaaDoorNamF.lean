/-
  Names: parts of names, and the order in which names are asked.
-/
import Derived.Test.YthkhojiodekccaaDoorNamE
namespace Go.Proofs.YthkhojiodekccaaDoor.NamF
open Go.Proofs.YthkhojiodekccaaDoor.E Go.RowKit Go.Proofs.YthkhojiodekccaaDoor.NamA Go.Proofs.YthkhojiodekccaaDoor.NamB Go.Proofs.YthkhojiodekccaaDoor.NamC Go.Proofs.YthkhojiodekccaaDoor.NamD Go.Proofs.YthkhojiodekccaaDoor.NamE
set_option maxRecDepth 20000
set_option linter.unusedVariables false
set_option linter.unusedSimpArgs false
set_option linter.unusedSectionVars false
set_option maxRecDepth 100000 in
theorem inf27 : Inf Tryd.prog 27 9 1 16 := ⟨Tryd.underlying27, _, _, rfl, rfl, rfl, rfl, rfl⟩

/-- one behind the other, all fit up to place i -/
def okAll (l : List (List UInt8)) (i : Nat) : Bool := (List.range i).all (fun j => decide (fitsL (l.getD j []) (l.take j) = 0))
theorem okAll_succ {l : List (List UInt8)} {i : Nat} (hi : i < l.length) : okAll l (i + 1) = (okAll l i && decide (fitsL l[i] (l.take i) = 0)) := by
  unfold okAll
  rw [List.range_succ, List.all_append]
  simp [List.getD, hi]
theorem fits_iff (s : List UInt8) (l : List (List UInt8)) : fitsL s l = 0 ↔ chk s = 0 ∧ ∀ o ∈ l, o ≠ s ∧ adj o s = false := by
  have hc : ∀ o, adj o s = adj s o := fun o => by unfold adj; rw [Bool.or_comm]
  unfold fitsL
  by_cases h1 : chk s = 0
  · have hb : base s l = if s ∈ l then 8 else 0 := by unfold base; rw [if_neg (by simpa using h1)]
    rw [hb]
    by_cases h2 : s ∈ l
    · rw [if_pos h2, if_pos (by decide)]
      exact ⟨fun h => (by cases h), fun h => absurd rfl (h.2 s h2).1⟩
    · rw [if_neg h2, if_neg (by decide)]
      by_cases h3 : l.any (adj s) = true
      · rw [if_pos h3]
        refine ⟨fun h => (by cases h), fun h => ?_⟩
        obtain ⟨o, ho, e⟩ := List.any_eq_true.1 h3
        have := (h.2 o ho).2
        rw [hc, e] at this; cases this
      · rw [if_neg h3]
        refine ⟨fun _ => ⟨h1, fun o ho => ⟨fun e => h2 (e ▸ ho), ?_⟩⟩, fun _ => rfl⟩
        rw [hc]
        cases e : adj s o with
        | false => rfl
        | true => exact absurd (List.any_eq_true.2 ⟨o, ho, e⟩) h3
  · have hb : base s l = chk s := by unfold base; rw [if_pos h1]
    rw [hb, if_pos h1]
    exact ⟨fun h => absurd h h1, fun h => absurd h.1 h1⟩
theorem okAll_iff (l : List (List UInt8)) : okAll l l.length = true ↔ (∀ s ∈ l, chk s = 0) ∧ l.Pairwise (fun o s => o ≠ s ∧ adj o s = false) := by
  unfold okAll
  rw [List.all_eq_true]
  simp only [List.mem_range, decide_eq_true_eq]
  constructor
  · intro h
    have h1 : ∀ i (hi : i < l.length), chk l[i] = 0 ∧ ∀ o ∈ l.take i, o ≠ l[i] ∧ adj o l[i] = false := fun i hi => by
      have := h i hi
      rw [show l.getD i [] = l[i] by simp [List.getD, hi]] at this
      exact (fits_iff _ _).1 this
    refine ⟨fun s hs => ?_, List.pairwise_iff_getElem.2 (fun i j hi hj hij => ?_)⟩
    · obtain ⟨i, hi, rfl⟩ := List.getElem_of_mem hs; exact (h1 i hi).1
    · exact (h1 j hj).2 _ (List.mem_take_iff_getElem.2 ⟨i, by omega, rfl⟩)
  · rintro ⟨h1, h2⟩ i hi
    rw [show l.getD i [] = l[i] by simp [List.getD, hi]]
    refine (fits_iff _ _).2 ⟨h1 _ (List.getElem_mem hi), fun o ho => ?_⟩
    obtain ⟨j, hj, rfl⟩ := List.mem_take_iff_getElem.1 ho
    exact List.pairwise_iff_getElem.1 h2 j i (by omega) hi (by omega)
def rotL (l : List (List UInt8)) (k i : Nat) : List (List UInt8) := (List.range i).map (fun j => l.getD ((j + k) % l.length) [])
theorem rotL_succ {l : List (List UInt8)} {k i : Nat} (h : (i + k) % l.length < l.length) : rotL l k (i + 1) = rotL l k i ++ [l[(i + k) % l.length]] := by
  unfold rotL
  rw [List.range_succ, List.map_append]
  simp [List.getD, h]
theorem rotL_len (l : List (List UInt8)) (k i : Nat) : (rotL l k i).length = i := by simp [rotL]
theorem rotL_eq {l : List (List UInt8)} {k : Nat} (hk : k < l.length) : rotL l k l.length = l.drop k ++ l.take k := by
  apply List.ext_getElem
  · simp [rotL_len]; omega
  · intro i h1 h2
    rw [rotL_len] at h1
    have e : (rotL l k l.length)[i]'(by rw [rotL_len]; exact h1) = l.getD ((i + k) % l.length) [] := by simp [rotL]
    rw [e]
    by_cases hi : i < (l.drop k).length
    · rw [List.getElem_append_left hi, List.getElem_drop]
      rw [List.length_drop] at hi
      rw [Nat.mod_eq_of_lt (by omega)]
      simp [List.getD, show k + i < l.length by omega, Nat.add_comm]
    · rw [List.getElem_append_right (by omega), List.getElem_take]
      rw [List.length_drop] at hi
      have e2 : (i + k) % l.length = i + k - l.length := by rw [Nat.mod_eq_sub_mod (by omega), Nat.mod_eq_of_lt (by omega)]
      rw [e2]
      have e3 : i - (l.drop k).length = i + k - l.length := by rw [List.length_drop]; omega
      simp only [e3]
      simp [List.getD, show i + k - l.length < l.length by omega]
theorem rot_perm {l : List (List UInt8)} {k : Nat} (hk : k < l.length) : (rotL l k l.length).Perm l := by
  rw [rotL_eq hk]
  exact List.perm_append_comm.trans (by rw [List.take_append_drop])
theorem okAll_rot {l : List (List UInt8)} {k : Nat} (hk : k < l.length) : okAll l l.length = okAll (rotL l k l.length) l.length := by
  have hp := rot_perm hk
  have h1 := okAll_iff l
  have h2 := okAll_iff (rotL l k l.length)
  rw [rotL_len] at h2
  have hsym : ∀ {x y : List UInt8}, (x ≠ y ∧ adj x y = false) → (y ≠ x ∧ adj y x = false) := fun h => ⟨fun e => h.1 e.symm, by rw [← h.2]; unfold adj; rw [Bool.or_comm]⟩
  have e : (okAll l l.length = true) ↔ (okAll (rotL l k l.length) l.length = true) := by
    rw [h1, h2, hp.pairwise_iff hsym]
    constructor
    · rintro ⟨a, b⟩; exact ⟨fun s hs => a s (hp.mem_iff.1 hs), b⟩
    · rintro ⟨a, b⟩; exact ⟨fun s hs => a s (hp.mem_iff.2 hs), b⟩
  cases ha : okAll l l.length <;> cases hb : okAll (rotL l k l.length) l.length <;> simp_all
theorem within_ct (a n : Int) (w0 : World) (H0 : Heap)
    (hn : 0 < n) (hn2 : n ≤ 1099511627776) :
    Ct Tryd.prog w0 12 #[.int .i64 a, .int .i64 n] H0 (fun r H2 => r = .int .i64 (a % n) ∧ Nw H0 H2) := by
  refine Ct.enter (args := [.int .i64 a, .int .i64 n]) Tryd.func12 rfl rfl rfl ?_
  intro Q0 hret
  have hm0 : Nw H0 H0 := Mo.refl _ _
  have h1 := Int.emod_nonneg a (show n ≠ 0 by omega)
  have h2 := Int.emod_lt_of_pos a hn
  have h3 : a.tmod n = a % n ∨ a.tmod n + n = a % n ∧ a.tmod n < 0 := by
    rw [Int.tmod_eq_emod]
    split
    · left; omega
    · rename_i hh; right
      have : (n.natAbs : Int) = n := by omega
      omega
  have h4 : 0 ≤ a.tmod n → a.tmod n = a % n := by omega
  refine CW.seq (fun K1 hK1 hE1 => ?_)
  refine CW.region ?_
  refine LR.v (Y.assign rfl rfl) (Wd.u rfl) rfl rfl ?_
  refine LR.nil ?_
  refine hK1 _ _ ?_
  refine CW.seq (fun K2 hK2 hE2 => ?_)
  refine CW.region ?_
  refine LR.v (Y.move rfl rfl) (Wd.u rfl) rfl rfl ?_
  refine LR.v (Y.move rfl rfl) (Wd.u rfl) rfl rfl ?_
  refine LR.v (Y.rem rfl rfl rfl (by omega)) (Wd.u rfl) rfl rfl ?_
  refine LR.v (Y.assign rfl rfl) (Wd.u rfl) rfl rfl ?_
  refine LR.nil ?_
  refine hK2 _ _ ?_
  refine CW.seq (fun K3 hK3 hE3 => ?_)
  refine CW.seq (fun K4 hK4 hE4 => ?_)
  refine CW.region ?_
  refine LR.v (Y.move rfl rfl) (Wd.u rfl) rfl rfl ?_
  refine LR.v (Y.lss rfl rfl rfl) (Wd.u rfl) rfl rfl ?_
  refine LR.nil ?_
  refine hK4 _ _ ?_
  refine CW.condp rfl (fun c10 => ?_) (fun c10 => ?_)
  ·
    refine CW.region ?_
    refine LR.v (Y.move rfl rfl) (Wd.u rfl) rfl rfl ?_
    refine LR.v (Y.move rfl rfl) (Wd.u rfl) rfl rfl ?_
    refine LR.v (Y.addi rfl rfl rfl (by omega)) (Wd.u rfl) rfl rfl ?_
    refine LR.v (Y.assign rfl rfl) (Wd.u rfl) rfl rfl ?_
    refine LR.nil ?_
    refine hK3 _ _ ?_
    refine CW.seq (fun K5 hK5 hE5 => ?_)
    refine CW.region ?_
    refine LR.v (Y.move rfl rfl) (Wd.u rfl) rfl rfl ?_
    refine LR.v (Y.assign rfl rfl) (Wd.u rfl) rfl rfl ?_
    refine LR.nil ?_
    refine hK5 _ _ ?_
    refine CW.ret (hret .ret (.inr rfl) _ _ _ (res1 rfl rfl) ?_)
    exact ⟨ivv (by omega), hm0⟩
  ·
    refine CW.skip ?_
    refine hK3 _ _ ?_
    refine CW.seq (fun K6 hK6 hE6 => ?_)
    refine CW.region ?_
    refine LR.v (Y.move rfl rfl) (Wd.u rfl) rfl rfl ?_
    refine LR.v (Y.assign rfl rfl) (Wd.u rfl) rfl rfl ?_
    refine LR.nil ?_
    refine hK6 _ _ ?_
    refine CW.ret (hret .ret (.inr rfl) _ _ _ (res1 rfl rfl) ?_)
    exact ⟨ivv (by omega), hm0⟩

set_option maxHeartbeats 4000000 in
theorem nameOrder_ct (v : Value) (l : List (List UInt8)) (by_ : Int) (mx_ : Int) (w0 : World) (H0 : Heap)
    (mx : MX mx_ H0) (bf_mx : BF (fun b => b = 0) H0.size) (hl : RdT H0 fS 1 v l) (hx : ∀ x ∈ l, x.length ≤ 140737488355328) :
    Ct Tryd.prog w0 6 #[v, .int .i64 by_] H0 (fun r H2 => r = .bool true ∧ Nw H0 H2) := by
  refine Ct.enter (args := [v, .int .i64 by_]) Tryd.func6 rfl rfl rfl ?_
  intro Q0 hret
  have hm0 : Nw H0 H0 := Mo.refl _ _
  replace hl := hl.bnd
  have bf_hl := Rd.bf hl
  have hll := hl.len
  refine CW.seq (fun K1 hK1 hE1 => ?_)
  refine CW.region ?_
  refine LR.v (Y.assign rfl rfl) (Wd.u rfl) rfl rfl ?_
  refine LR.nil ?_
  refine hK1 _ _ ?_
  refine CW.seq (fun K2 hK2 hE2 => ?_)
  refine CW.seq (fun K3 hK3 hE3 => ?_)
  refine CW.region ?_
  -- call selvage/selvagelaw9.known
  refine LR.call rfl Tryd.call7 rfl (Wd.u rfl) rfl rfl (known_ct mx_ w0 _ mx bf_mx) (fun v11 H11 r11 => ?_)
  obtain ⟨rfl, hs11⟩ := r11
  replace mx := mx.nw hs11
  replace hl := hl.nw hs11
  replace hm0 := hm0.tr hs11
  have hz1 := hs11.size
  refine LR.v (Y.not rfl rfl) (Wd.u rfl) rfl rfl ?_
  refine LR.nil ?_
  refine hK3 _ _ ?_
  refine CW.cond_f rfl ?_
  refine CW.skip ?_
  refine hK2 _ _ ?_
  refine CW.seq (fun K4 hK4 hE4 => ?_)
  refine CW.seq (fun K5 hK5 hE5 => ?_)
  refine CW.region ?_
  refine LR.v (Y.move rfl rfl) (Wd.u rfl) rfl rfl ?_
  refine LR.v (Y.len hl rfl Tryd.runUnderlying27 rfl) (Wd.u rfl) rfl rfl ?_
  refine LR.v (Y.eql rfl rfl rfl) (Wd.u rfl) rfl rfl ?_
  refine LR.v (Y.move rfl rfl) (Wd.u rfl) rfl rfl ?_
  refine LR.splitp (d := 16) rfl (fun g16 => ?_) (fun g16 => ?_)
  ·
    refine LR.gs rfl rfl rfl rfl rfl rfl ?_
    refine LR.gs rfl rfl rfl rfl rfl rfl ?_
    refine LR.gs rfl rfl rfl rfl rfl rfl ?_
    refine LR.v (Y.pick_t rfl rfl rfl) (Wd.u rfl) rfl rfl ?_
    refine LR.nil ?_
    refine hK5 _ _ ?_
    refine CW.cond_t rfl ?_
    refine CW.seq (fun K6 hK6 hE6 => ?_)
    refine CW.region ?_
    refine LR.v (Y.assign rfl rfl) (Wd.u rfl) rfl rfl ?_
    refine LR.nil ?_
    refine hK6 _ _ ?_
    refine CW.ret (hE4 .ret nofun _ _ (hret .ret (.inr rfl) _ _ _ (res1 rfl rfl) ?_))
    exact ⟨rfl, hm0⟩
  ·
    refine LR.v (Y.move rfl rfl) (Wd.g rfl rfl rfl) rfl rfl ?_
    refine LR.v (Y.len hl rfl Tryd.runUnderlying27 rfl) (Wd.g rfl rfl rfl) rfl rfl ?_
    refine LR.v (Y.gtr rfl rfl rfl) (Wd.g rfl rfl rfl) rfl rfl ?_
    refine LR.v (Y.pick_f rfl rfl rfl) (Wd.u rfl) rfl rfl ?_
    refine LR.nil ?_
    refine hK5 _ _ ?_
    refine CW.condp rfl (fun c20 => ?_) (fun c20 => ?_)
    ·
      refine CW.seq (fun K7 hK7 hE7 => ?_)
      refine CW.region ?_
      refine LR.v (Y.assign rfl rfl) (Wd.u rfl) rfl rfl ?_
      refine LR.nil ?_
      refine hK7 _ _ ?_
      refine CW.ret (hE4 .ret nofun _ _ (hret .ret (.inr rfl) _ _ _ (res1 rfl rfl) ?_))
      exact ⟨rfl, hm0⟩
    ·
      refine CW.skip ?_
      refine hK4 _ _ ?_
      refine CW.seq (fun K8 hK8 hE8 => ?_)
      refine CW.region ?_
      refine LR.v (Y.assign rfl rfl) (Wd.u rfl) rfl rfl ?_
      refine LR.v (Y.assign rfl rfl) (Wd.u rfl) rfl rfl ?_
      refine LR.nil ?_
      refine hK8 _ _ ?_
      refine CW.seq (fun K9 hK9 hE9 => ?_)
      refine CW.seq (fun K10 hK10 hE10 => ?_)
      refine CW.region ?_
      refine LR.v (Y.assign rfl rfl) (Wd.u rfl) rfl rfl ?_
      refine LR.nil ?_
      refine hK10 _ _ ?_
      refine CW.block (fun K11 hK11 hX11 hE11 => ?_)
      refine CW.loop (fun (s_ : (Nat) × (Bool)) => match s_ with | (i, a) => [(0, v), (1, .int .i64 by_), (5, .bool a), (6, .bool true), (7, .int .i64 i)])
        (fun (s_ : (Nat) × (Bool)) (H : Heap) => match s_ with | (i, a) => (i ≤ l.length) ∧ (a = okAll l i) ∧ Nw H11 H)
        (fun (s_ : (Nat) × (Bool)) => match s_ with | (i, a) => l.length - i) (0, true) ⟨rfl, rfl, rfl, rfl, rfl, trivial⟩ ?_ ?_
      ·
        exact ⟨(by omega), rfl, Mo.refl _ _⟩
      rintro ⟨i, a⟩ HL1 hI1 K12 hN12 hE12
      obtain ⟨hi, ha, hlm1⟩ := hI1
      replace mx := mx.nw hlm1
      replace hl := hl.nw hlm1
      replace hm0 := hm0.tr hlm1
      have hz2 := hlm1.size
      refine CW.seq (fun K13 hK13 hE13 => ?_)
      refine CW.seq (fun K14 hK14 hE14 => ?_)
      refine CW.region ?_
      refine LR.v (Y.move rfl rfl) (Wd.u rfl) rfl rfl ?_
      refine LR.v (Y.move rfl rfl) (Wd.u rfl) rfl rfl ?_
      refine LR.v (Y.len hl rfl Tryd.runUnderlying27 rfl) (Wd.u rfl) rfl rfl ?_
      refine LR.v (Y.lss rfl rfl rfl) (Wd.u rfl) rfl rfl ?_
      refine LR.nil ?_
      refine hK14 _ _ ?_
      refine CW.condp rfl (fun c24 => ?_) (fun c24 => ?_)
      ·
        have hil : i < l.length := by omega
        refine CW.skip ?_
        refine hK13 _ _ ?_
        refine CW.seq (fun K15 hK15 hE15 => ?_)
        refine CW.block (fun K16 hK16 hX16 hE16 => ?_)
        refine CW.region_tail 9 rfl (by kernel_rfl) (fun T9 hT9 => ?_)
        refine LR.v (Y.move rfl rfl) (Wd.u rfl) rfl rfl ?_
        refine LR.v (Y.move rfl rfl) (Wd.u rfl) rfl rfl ?_
        refine LR.split (d := 28) rfl (fun g28 => ?_) (fun g28 => ?_)
        ·
          refine LR.v (Y.move rfl rfl) (Wd.g rfl rfl rfl) rfl rfl ?_
          refine LR.v (Y.move rfl rfl) (Wd.g rfl rfl rfl) rfl rfl ?_
          refine LR.e (g := fun ad => .pointer (some ad)) (Y.indexAddrF hl (i) rfl Tryd.runUnderlying27 Tryd.sizeOf9 rfl rfl (by first | rfl | omega) (by first | omega | (simp; omega) | (simp; done))) (Wd.g rfl rfl rfl) rfl rfl (fun ad31 pt31 => ?_)
          have bf_pt31 := bf_hl
          refine LR.v (Y.load1 pt31.pt rfl Tryd.isAgg9 rfl) (Wd.g rfl rfl rfl) rfl rfl ?_
          refine LR.v (Y.move rfl rfl) (Wd.g rfl rfl rfl) rfl rfl ?_
          refine LR.v (Y.move rfl rfl) (Wd.g rfl rfl rfl) rfl rfl ?_
          refine LR.e (g := fun v => v) (Y.slice hl (0) (i) rfl Tryd.runUnderlying27 Tryd.sizeOf9 rfl (.inl ⟨rfl, rfl⟩) (.inr ⟨_, _, _, rfl, rfl, by first | rfl | omega⟩) (by omega) (by omega)) (Wd.g rfl rfl rfl) rfl rfl (fun v35 rd35 => ?_)
          have bf_rd35 := bf_hl
          rw [List.drop_zero] at rd35
          refine LR.nil (hT9 _ ?_)
          -- call selvage/name.Fits
          refine LR.call rfl Tryd.call10 rfl (Wd.g rfl rfl rfl) rfl rfl (fits_ct l[i] _ (l.take i) mx_ w0 _ mx (bf_mx.mono (by omega)) rd35.any (hx _ (List.getElem_mem hil)) (fun x h => hx x (List.mem_of_mem_take h))) (fun v36 H36 r36 => ?_)
          obtain ⟨rfl, hs36⟩ := r36
          replace mx := mx.nw hs36
          replace hl := hl.nw hs36
          replace pt31 := pt31.nw hs36
          replace rd35 := rd35.nw hs36
          replace hm0 := hm0.tr hs36
          replace hlm1 := hlm1.tr hs36
          have hz3 := hs36.size
          refine LR.v (Y.eql rfl rfl rfl) (Wd.g rfl rfl rfl) rfl rfl ?_
          refine LR.v (Y.pick_t rfl rfl rfl) (Wd.u rfl) rfl rfl ?_
          refine LR.v (Y.assign rfl rfl) (Wd.u rfl) rfl rfl ?_
          refine LR.nil ?_
          refine hK16 _ _ ?_
          refine hK15 _ _ ?_
          refine CW.region ?_
          refine LR.v (Y.move rfl rfl) (Wd.u rfl) rfl rfl ?_
          refine LR.v (Y.addi rfl rfl rfl (by omega)) (Wd.u rfl) rfl rfl ?_
          refine LR.v (Y.assign rfl rfl) (Wd.u rfl) rfl rfl ?_
          refine LR.nil ?_
          refine QN.sub (hN12 (i + 1, decide (fitsL l[i] (l.take i) = 0)) _ ?_ ?_) ⟨rfl, (iv (by omega)), rfl, rfl, (iv (by omega)), trivial⟩
          · exact ⟨(by omega), (by rw [okAll_succ hil, ← ha, g28, Bool.true_and]), hlm1⟩
          · first | omega | (simp only; omega) | (simp; omega)
        ·
          refine LR.gs rfl rfl rfl rfl rfl rfl ?_
          refine LR.gs rfl rfl rfl rfl rfl rfl ?_
          refine LR.gs rfl rfl rfl rfl rfl rfl ?_
          refine LR.gs rfl rfl rfl rfl rfl rfl ?_
          refine LR.gs rfl rfl rfl rfl rfl rfl ?_
          refine LR.gs rfl rfl rfl rfl rfl rfl ?_
          refine LR.gs rfl rfl rfl rfl rfl rfl ?_
          refine LR.nil (hT9 _ ?_)
          refine LR.gs rfl rfl rfl rfl rfl rfl ?_
          refine LR.gs rfl rfl rfl rfl rfl rfl ?_
          refine LR.v (Y.pick_f rfl rfl rfl) (Wd.u rfl) rfl rfl ?_
          refine LR.v (Y.assign rfl rfl) (Wd.u rfl) rfl rfl ?_
          refine LR.nil ?_
          refine hK16 _ _ ?_
          refine hK15 _ _ ?_
          refine CW.region ?_
          refine LR.v (Y.move rfl rfl) (Wd.u rfl) rfl rfl ?_
          refine LR.v (Y.addi rfl rfl rfl (by omega)) (Wd.u rfl) rfl rfl ?_
          refine LR.v (Y.assign rfl rfl) (Wd.u rfl) rfl rfl ?_
          refine LR.nil ?_
          refine QN.sub (hN12 (i + 1, false) _ ?_ ?_) ⟨rfl, (iv (by omega)), rfl, rfl, (iv (by omega)), trivial⟩
          · exact ⟨(by omega), (by rw [okAll_succ hil, ← ha, g28, Bool.false_and]), hlm1⟩
          · first | omega | (simp only; omega) | (simp; omega)
      ·
        have hil : i = l.length := by omega
        have hn0 : 0 < l.length := by omega
        obtain ⟨k, hk⟩ : ∃ k : Nat, by_ % (l.length : Int) = k := ⟨(by_ % (l.length : Int)).toNat, by have := Int.emod_nonneg by_ (show (l.length : Int) ≠ 0 by omega); omega⟩
        have hkl : k < l.length := by have := Int.emod_lt_of_pos by_ (show 0 < (l.length : Int) by omega); omega
        refine CW.exit (hE13 (.exit 0) nofun _ _ (hE12 (.exit 0) nofun _ _ (hX11 _ _ ?_)))
        refine hK9 _ _ ?_
        refine CW.seq (fun K17 hK17 hE17 => ?_)
        refine CW.region ?_
        refine LR.v (Y.assign rfl rfl) (Wd.u rfl) rfl rfl ?_
        refine LR.nil ?_
        refine hK17 _ _ ?_
        refine CW.seq (fun K18 hK18 hE18 => ?_)
        refine CW.seq (fun K19 hK19 hE19 => ?_)
        refine CW.region ?_
        refine LR.v (Y.assign rfl rfl) (Wd.u rfl) rfl rfl ?_
        refine LR.nil ?_
        refine hK19 _ _ ?_
        refine CW.block (fun K20 hK20 hX20 hE20 => ?_)
        refine CW.loop (fun (s_ : (Nat) × (Value) × (Nat)) => match s_ with | (i, vm, km) => [(0, v), (1, .int .i64 by_), (5, .bool a), (6, .bool true), (8, vm), (9, .int .i64 i)])
          (fun (s_ : (Nat) × (Value) × (Nat)) (H : Heap) => match s_ with | (i, vm, km) => (i ≤ l.length) ∧ (Ow km 9 H fS 1 vm (rotL l k i)) ∧ (Nx 0 HL1.size km) ∧ Nw HL1 H)
          (fun (s_ : (Nat) × (Value) × (Nat)) => match s_ with | (i, vm, km) => l.length - i) (0, .slice none 0 0, 0) ⟨rfl, rfl, rfl, rfl, rfl, rfl, trivial⟩ ?_ ?_
        ·
          exact ⟨(by omega), Ow.nil fS_len fS_one, Nx.refl _ _, Mo.refl _ _⟩
        rintro ⟨i, vm, km⟩ HL2 hI2 K21 hN21 hE21
        obtain ⟨hi, om, nxl_om, hlm2⟩ := hI2
        have df1 := DF.app (DF.z) (bf_mx.mono hm0.size) nxl_om
        have df2 := DF.app (DF.z) (bf_hl.mono hm0.size) nxl_om
        have nx3 : Nx 0 H0.size km := Nx.tr (Nx.refl 0 _) nxl_om hm0.size
        replace mx := mx.nw hlm2
        replace hl := hl.nw hlm2
        replace hm0 := hm0.tr hlm2
        have hz4 := hlm2.size
        have hle_om := om.le
        have nx4 := nxl_om
        refine CW.seq (fun K22 hK22 hE22 => ?_)
        refine CW.seq (fun K23 hK23 hE23 => ?_)
        refine CW.region ?_
        refine LR.v (Y.move rfl rfl) (Wd.u rfl) rfl rfl ?_
        refine LR.v (Y.move rfl rfl) (Wd.u rfl) rfl rfl ?_
        refine LR.v (Y.len hl rfl Tryd.runUnderlying27 rfl) (Wd.u rfl) rfl rfl ?_
        refine LR.v (Y.lss rfl rfl rfl) (Wd.u rfl) rfl rfl ?_
        refine LR.nil ?_
        refine hK23 _ _ ?_
        refine CW.condp rfl (fun c42 => ?_) (fun c42 => ?_)
        ·
          have hil2 : i < l.length := by omega
          have hml : (i + k) % l.length < l.length := Nat.mod_lt _ (by omega)
          have hrl := rotL_len l k i
          refine CW.skip ?_
          refine hK22 _ _ ?_
          refine CW.seq (fun K24 hK24 hE24 => ?_)
          refine CW.block (fun K25 hK25 hX25 hE25 => ?_)
          refine CW.region ?_
          refine LR.v (Y.move rfl rfl) (Wd.u rfl) rfl rfl ?_
          refine LR.v (Y.move rfl rfl) (Wd.u rfl) rfl rfl ?_
          refine LR.v (Y.move rfl rfl) (Wd.u rfl) rfl rfl ?_
          refine LR.v (Y.move rfl rfl) (Wd.u rfl) rfl rfl ?_
          refine LR.v (Y.move rfl rfl) (Wd.u rfl) rfl rfl ?_
          refine LR.v (Y.len hl rfl Tryd.runUnderlying27 rfl) (Wd.u rfl) rfl rfl ?_
          -- call selvage/selvagelaw9.within
          refine LR.call rfl Tryd.call12 rfl (Wd.u rfl) rfl rfl (within_ct by_ l.length w0 _ (by omega) (by omega)) (fun v51 H51 r51 => ?_)
          obtain ⟨rfl, hs51⟩ := r51
          replace mx := mx.nw hs51
          replace hl := hl.nw hs51
          replace om := om.nw hs51
          replace hm0 := hm0.tr hs51
          replace hlm2 := hlm2.tr hs51
          have hz5 := hs51.size
          refine LR.v (Y.cast (v2 := .int .i64 ((i + k : Nat) : Int)) (Y.addi rfl rfl rfl (by rw [hk]; omega)) (by rw [hk]; rfl)) (Wd.u rfl) rfl rfl ?_
          refine LR.v (Y.move rfl rfl) (Wd.u rfl) rfl rfl ?_
          refine LR.v (Y.len hl rfl Tryd.runUnderlying27 rfl) (Wd.u rfl) rfl rfl ?_
          refine LR.v (Y.cast (v2 := .int .i64 (((i + k) % l.length : Nat) : Int)) (Y.remi rfl rfl rfl (by omega)) (congrArg (Value.int .i64) (by first | exact (Int.natCast_mod _ _).symm | simp))) (Wd.u rfl) rfl rfl ?_
          refine LR.e (g := fun ad => .pointer (some ad)) (Y.indexAddrF hl ((i + k) % l.length) rfl Tryd.runUnderlying27 Tryd.sizeOf9 rfl rfl (by first | rfl | omega) (hml)) (Wd.u rfl) rfl rfl (fun ad56 pt56 => ?_)
          have bf_pt56 := bf_hl
          refine LR.v (Y.load1 pt56.pt rfl Tryd.isAgg9 rfl) (Wd.u rfl) rfl rfl ?_
          refine LR.z (Z.litw _ ([l[(i + k) % l.length]]) rfl inf27 rfl rfl rfl (by decide) (by decide) fS_len fS_one (rfl)) (Wd.u rfl) rfl rfl (fun v58 H58 r58 => ?_)
          obtain ⟨nw58, hs58, ob58, hH58⟩ := r58
          have hzs58 : H58.size = H51.size + 1 := by rw [hH58]; simp
          have df5 := (DF.new (bf_mx.mono hm0.size) : DF _ (H51.size + 1))
          have df6 := (DF.new (bf_hl.mono hm0.size) : DF _ (H51.size + 1))
          have dj7 : Dj km (H51.size + 1) := Dj.new om.le
          have df8 := (DF.new (bf_pt56.mono hm0.size) : DF _ (H51.size + 1))
          have nx9 : Nx 0 H0.size (H51.size + 1) := Nx.new hm0.size
          have nx10 : Nx 0 HL1.size (H51.size + 1) := Nx.new hlm2.size
          replace mx := mx.nw hs58
          replace hl := hl.nw hs58
          replace om := om.nw hs58
          replace pt56 := pt56.nw hs58
          replace hm0 := hm0.tr hs58
          replace hlm2 := hlm2.tr hs58
          have hz6 := hs58.size
          refine LR.z (Z.apnd om nw58.rd rfl inf27 rfl rfl (by rw [hrl]; simp; omega) (by rw [hrl]; simp; omega)) (Wd.u rfl) rfl rfl (fun v59 H59 r59 => ?_)
          obtain ⟨k59, om, hk59, hs59⟩ := r59
          replace hk59 : Nx km H58.size k59 := hk59
          replace hs59 := hs59.md
          have df11 := DF.app (df1) (bf_mx.mono hm0.size) hk59
          have df12 := DF.app (df2) (bf_hl.mono hm0.size) hk59
          have df13 := DF.app (df2) (bf_pt56.mono hm0.size) hk59
          have dj14 : Dj (H51.size + 1) k59 := Dj.app (dj7.symm) nw58.le hk59
          have nx15 : Nx 0 H0.size k59 := Nx.tr (nx3) hk59 hm0.size
          have nx16 : Nx 0 HL1.size k59 := Nx.tr (nx4) hk59 hlm2.size
          replace mx := mx.upL hs59 (DFL.cons df1 DFL.nil)
          replace hl := hl.upL hs59 (DFL.cons df2 DFL.nil)
          replace pt56 := pt56.upL hs59 (DFL.cons df2 DFL.nil)
          replace nw58 := nw58.upL hs59 (DL.cons dj7.symm DL.nil)
          replace hm0 := (Mo.trL (ks := []) (hm0.mdn []) hs59 (MIL.cons (MI.app MI.z (nx3) (Nat.le_refl _)) MIL.nil)).nil
          replace hlm2 := (Mo.trL (ks := []) (hlm2.mdn []) hs59 (MIL.cons (MI.app MI.z (nx4) (Nat.le_refl _)) MIL.nil)).nil
          have hz7 := hs59.size
          have hle_om := om.le
          refine LR.v (Y.assign rfl rfl) (Wd.u rfl) rfl rfl ?_
          refine LR.nil ?_
          refine hK25 _ _ ?_
          refine hK24 _ _ ?_
          refine CW.region ?_
          refine LR.v (Y.move rfl rfl) (Wd.u rfl) rfl rfl ?_
          refine LR.v (Y.addi rfl rfl rfl (by omega)) (Wd.u rfl) rfl rfl ?_
          refine LR.v (Y.assign rfl rfl) (Wd.u rfl) rfl rfl ?_
          refine LR.nil ?_
          refine QN.sub (hN21 (i + 1, v59, k59) _ ?_ ?_) ⟨rfl, (iv (by omega)), rfl, rfl, rfl, (iv (by omega)), trivial⟩
          · exact ⟨(by omega), by rw [rotL_succ hml]; exact om, nx16, hlm2⟩
          · first | omega | (simp only; omega) | (simp; omega)
        ·
          have hil3 : i = l.length := by omega
          rw [hil3] at om
          obtain ⟨ms, hms⟩ : ∃ ms, rotL l k l.length = ms := ⟨_, rfl⟩
          have hml : ms.length = l.length := by rw [← hms, rotL_len]
          have hxm : ∀ x ∈ ms, x.length ≤ 140737488355328 := fun x h => hx x ((rot_perm hkl).mem_iff.1 (by rw [hms]; exact h))
          rw [hms] at om
          refine CW.exit (hE22 (.exit 2) nofun _ _ (hE21 (.exit 2) nofun _ _ (hX20 _ _ ?_)))
          refine hK18 _ _ ?_
          refine CW.seq (fun K26 hK26 hE26 => ?_)
          refine CW.seq (fun K27 hK27 hE27 => ?_)
          refine CW.region ?_
          refine LR.v (Y.assign rfl rfl) (Wd.u rfl) rfl rfl ?_
          refine LR.nil ?_
          refine hK27 _ _ ?_
          refine CW.block (fun K28 hK28 hX28 hE28 => ?_)
          refine CW.loop (fun (s_ : (Nat) × (Bool)) => match s_ with | (i, b) => [(5, .bool a), (6, .bool b), (8, vm), (10, .int .i64 i)])
            (fun (s_ : (Nat) × (Bool)) (H : Heap) => match s_ with | (i, b) => (i ≤ ms.length) ∧ (b = okAll ms i) ∧ Nw HL2 H)
            (fun (s_ : (Nat) × (Bool)) => match s_ with | (i, b) => ms.length - i) (0, true) ⟨rfl, rfl, rfl, rfl, trivial⟩ ?_ ?_
          ·
            exact ⟨(by omega), rfl, Mo.refl _ _⟩
          rintro ⟨i, b⟩ HL3 hI3 K29 hN29 hE29
          obtain ⟨hi, hb, hlm3⟩ := hI3
          replace mx := mx.nw hlm3
          replace hl := hl.nw hlm3
          replace om := om.nw hlm3
          replace hm0 := hm0.tr hlm3
          have hz8 := hlm3.size
          refine CW.seq (fun K30 hK30 hE30 => ?_)
          refine CW.seq (fun K31 hK31 hE31 => ?_)
          refine CW.region ?_
          refine LR.v (Y.move rfl rfl) (Wd.u rfl) rfl rfl ?_
          refine LR.v (Y.move rfl rfl) (Wd.u rfl) rfl rfl ?_
          refine LR.v (Y.len om.rd rfl Tryd.runUnderlying27 rfl) (Wd.u rfl) rfl rfl ?_
          refine LR.v (Y.lss rfl rfl rfl) (Wd.u rfl) rfl rfl ?_
          refine LR.nil ?_
          refine hK31 _ _ ?_
          refine CW.condp rfl (fun c63 => ?_) (fun c63 => ?_)
          ·
            have hil4 : i < ms.length := by omega
            refine CW.skip ?_
            refine hK30 _ _ ?_
            refine CW.seq (fun K32 hK32 hE32 => ?_)
            refine CW.block (fun K33 hK33 hX33 hE33 => ?_)
            refine CW.region_tail 9 rfl (by kernel_rfl) (fun T18 hT18 => ?_)
            refine LR.v (Y.move rfl rfl) (Wd.u rfl) rfl rfl ?_
            refine LR.v (Y.move rfl rfl) (Wd.u rfl) rfl rfl ?_
            refine LR.split (d := 67) rfl (fun g67 => ?_) (fun g67 => ?_)
            ·
              refine LR.v (Y.move rfl rfl) (Wd.g rfl rfl rfl) rfl rfl ?_
              refine LR.v (Y.move rfl rfl) (Wd.g rfl rfl rfl) rfl rfl ?_
              refine LR.v (Y.owAddr om (i) rfl Tryd.runUnderlying27 Tryd.sizeOf9 rfl rfl (by first | rfl | omega) (by first | omega | (simp; omega) | (simp; done))) (Wd.g rfl rfl rfl) rfl rfl ?_
              refine LR.v (Y.load1 (om.pt (j := i) (by first | omega | (simp; omega) | (simp; done))) rfl Tryd.isAgg9 rfl) (Wd.g rfl rfl rfl) rfl rfl ?_
              refine LR.v (Y.move rfl rfl) (Wd.g rfl rfl rfl) rfl rfl ?_
              refine LR.v (Y.move rfl rfl) (Wd.g rfl rfl rfl) rfl rfl ?_
              refine LR.e (g := fun v => v) (Y.slice om.rd (0) (i) rfl Tryd.runUnderlying27 Tryd.sizeOf9 rfl (.inl ⟨rfl, rfl⟩) (.inr ⟨_, _, _, rfl, rfl, by first | rfl | omega⟩) (by omega) (by omega)) (Wd.g rfl rfl rfl) rfl rfl (fun v74 rd74 => ?_)
              have bf_rd74 := BF.of om.le
              rw [List.drop_zero] at rd74
              refine LR.nil (hT18 _ ?_)
              -- call selvage/name.Fits
              refine LR.call rfl Tryd.call10 rfl (Wd.g rfl rfl rfl) rfl rfl (fits_ct ms[i] _ (ms.take i) mx_ w0 _ mx (bf_mx.mono (by omega)) rd74.any (hxm _ (List.getElem_mem hil4)) (fun x h => hxm x (List.mem_of_mem_take h))) (fun v75 H75 r75 => ?_)
              obtain ⟨rfl, hs75⟩ := r75
              replace mx := mx.nw hs75
              replace hl := hl.nw hs75
              replace om := om.nw hs75
              replace rd74 := rd74.nw hs75
              replace hm0 := hm0.tr hs75
              replace hlm3 := hlm3.tr hs75
              have hz9 := hs75.size
              refine LR.v (Y.eql rfl rfl rfl) (Wd.g rfl rfl rfl) rfl rfl ?_
              refine LR.v (Y.pick_t rfl rfl rfl) (Wd.u rfl) rfl rfl ?_
              refine LR.v (Y.assign rfl rfl) (Wd.u rfl) rfl rfl ?_
              refine LR.nil ?_
              refine hK33 _ _ ?_
              refine hK32 _ _ ?_
              refine CW.region ?_
              refine LR.v (Y.move rfl rfl) (Wd.u rfl) rfl rfl ?_
              refine LR.v (Y.addi rfl rfl rfl (by omega)) (Wd.u rfl) rfl rfl ?_
              refine LR.v (Y.assign rfl rfl) (Wd.u rfl) rfl rfl ?_
              refine LR.nil ?_
              refine QN.sub (hN29 (i + 1, decide (fitsL ms[i] (ms.take i) = 0)) _ ?_ ?_) ⟨rfl, rfl, rfl, (iv (by omega)), trivial⟩
              · exact ⟨(by omega), (by rw [okAll_succ hil4, ← hb, g67, Bool.true_and]), hlm3⟩
              · first | omega | (simp only; omega) | (simp; omega)
            ·
              refine LR.gs rfl rfl rfl rfl rfl rfl ?_
              refine LR.gs rfl rfl rfl rfl rfl rfl ?_
              refine LR.gs rfl rfl rfl rfl rfl rfl ?_
              refine LR.gs rfl rfl rfl rfl rfl rfl ?_
              refine LR.gs rfl rfl rfl rfl rfl rfl ?_
              refine LR.gs rfl rfl rfl rfl rfl rfl ?_
              refine LR.gs rfl rfl rfl rfl rfl rfl ?_
              refine LR.nil (hT18 _ ?_)
              refine LR.gs rfl rfl rfl rfl rfl rfl ?_
              refine LR.gs rfl rfl rfl rfl rfl rfl ?_
              refine LR.v (Y.pick_f rfl rfl rfl) (Wd.u rfl) rfl rfl ?_
              refine LR.v (Y.assign rfl rfl) (Wd.u rfl) rfl rfl ?_
              refine LR.nil ?_
              refine hK33 _ _ ?_
              refine hK32 _ _ ?_
              refine CW.region ?_
              refine LR.v (Y.move rfl rfl) (Wd.u rfl) rfl rfl ?_
              refine LR.v (Y.addi rfl rfl rfl (by omega)) (Wd.u rfl) rfl rfl ?_
              refine LR.v (Y.assign rfl rfl) (Wd.u rfl) rfl rfl ?_
              refine LR.nil ?_
              refine QN.sub (hN29 (i + 1, false) _ ?_ ?_) ⟨rfl, rfl, rfl, (iv (by omega)), trivial⟩
              · exact ⟨(by omega), (by rw [okAll_succ hil4, ← hb, g67, Bool.false_and]), hlm3⟩
              · first | omega | (simp only; omega) | (simp; omega)
          ·
            have hil5 : i = ms.length := by omega
            refine CW.exit (hE30 (.exit 4) nofun _ _ (hE29 (.exit 4) nofun _ _ (hX28 _ _ ?_)))
            refine hK26 _ _ ?_
            refine CW.seq (fun K34 hK34 hE34 => ?_)
            refine CW.region ?_
            refine LR.v (Y.move rfl rfl) (Wd.u rfl) rfl rfl ?_
            refine LR.v (Y.move rfl rfl) (Wd.u rfl) rfl rfl ?_
            refine LR.v ((Y.beql rfl Tryd.underlying4 rfl rfl).isT (by rw [ha, hb, hil, hil5, hml, ← hms]; exact okAll_rot hkl)) (Wd.u rfl) rfl rfl ?_
            refine LR.v (Y.assign rfl rfl) (Wd.u rfl) rfl rfl ?_
            refine LR.nil ?_
            refine hK34 _ _ ?_
            refine CW.ret (hret .ret (.inr rfl) _ _ _ (res1 rfl rfl) ?_)
            exact ⟨rfl, hm0⟩

end Go.Proofs.YthkhojiodekccaaDoor.NamF
