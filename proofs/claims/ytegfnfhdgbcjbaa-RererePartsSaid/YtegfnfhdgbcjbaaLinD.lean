/-
  Contracts of functions of the program
-/
import Derived.Test.YtegfnfhdgbcjbaaLinC
namespace Go.Proofs.Ytegfnfhdgbcjbaa.LinD
open Go.Proofs.Ytegfnfhdgbcjbaa.E Go.RowKit Go.Proofs.Ytegfnfhdgbcjbaa.LinM Go.Proofs.Ytegfnfhdgbcjbaa.LinA Go.Proofs.Ytegfnfhdgbcjbaa.LinB Go.Proofs.Ytegfnfhdgbcjbaa.LinC
set_option linter.unusedVariables false
set_option linter.unusedSimpArgs false
set_option linter.unusedSectionVars false
set_option maxRecDepth 100000 in
theorem inf89 : Inf Try.prog 89 3 1 8 := ⟨Try.underlying89, _, _, rfl, rfl, rfl, rfl, rfl⟩

theorem mulb (x y : Int) (h1 : 0 ≤ x ∧ x ≤ 4001) (h2 : 0 ≤ y ∧ y ≤ 4001) : 0 ≤ x * y ∧ x * y ≤ 16008001 :=
  ⟨Int.mul_nonneg h1.1 h2.1, by have := Int.mul_le_mul h1.2 h2.2 h2.1 (by omega : (0 : Int) ≤ 4001); omega⟩
theorem idx (x y z : Int) (i w k : Nat) (hx : x = i) (hw : y = w) (hz : z = k) : x * y + z = ((i * w + k : Nat) : Int) := by subst hx; subst hw; subst hz; simp
theorem idx1 (x y z : Int) (i w k : Nat) (hx : x = i) (hw : y = w) (hz : z = k) : x * y + z + 1 = ((i * w + (k + 1) : Nat) : Int) := by subst hx; subst hw; subst hz; simp; omega
theorem flat_inj {w i k p q : Nat} (hk : k < w) (hq : q < w) (h : p * w + q = i * w + k) : p = i ∧ q = k := by
  have h1 := congrArg (· / w) h
  have h2 := congrArg (· % w) h
  simp only [Nat.mul_add_mod_of_lt hk, Nat.mul_add_mod_of_lt hq] at h2
  have hw : 0 < w := by omega
  simp only [Nat.add_comm (p * w), Nat.add_comm (i * w), Nat.add_mul_div_right _ _ hw, Nat.div_eq_of_lt hk, Nat.div_eq_of_lt hq] at h1
  exact ⟨by omega, h2⟩
theorem flat_lt {w i k n : Nat} (hk : k < w) (hi : i < n) : i * w + k < n * w := by
  have := Nat.mul_le_mul_right w (show i + 1 ≤ n from hi)
  rw [Nat.add_mul] at this; omega
/-- the numbers of the rows behind i, and of row i behind k, are laid -/
def KP (a b : List (List UInt8)) (K : List Int) (i k : Int) : Prop := K.length = (a.length + 1) * (b.length + 1) ∧
  ∀ p q : Nat, p ≤ a.length → q ≤ b.length → (p = a.length ∨ q = b.length ∨ i < p ∨ (i = p ∧ k < q)) → K[p * (b.length + 1) + q]? = some ((lcs (a.drop p) (b.drop q) : Nat) : Int)
theorem KP.start (a b : List (List UInt8)) : KP a b (List.replicate ((a.length + 1) * (b.length + 1)) 0) (a.length - 1) (b.length - 1) := by
  refine ⟨by simp, fun p q hp hq h => ?_⟩
  have hlt := flat_lt (w := b.length + 1) (i := p) (k := q) (n := a.length + 1) (by omega) (by omega)
  rw [List.getElem?_replicate, if_pos hlt]
  have h' : p = a.length ∨ q = b.length := by omega
  rcases h' with rfl | rfl
  · rw [List.drop_length, lcs_nil]; rfl
  · rw [List.drop_length, lcs_nil_right]; rfl
theorem KP.row {a b : List (List UInt8)} {K : List Int} {i k : Int} (h : KP a b K i k) (hk : k < 0) : KP a b K (i - 1) (b.length - 1) :=
  ⟨h.1, fun p q hp hq hh => h.2 p q hp hq (by omega)⟩
theorem KP.get {a b : List (List UInt8)} {K : List Int} {i k : Int} (h : KP a b K i k) (p q : Nat) (hp : p ≤ a.length) (hq : q ≤ b.length) (hh : p = a.length ∨ q = b.length ∨ i < p ∨ (i = p ∧ k < q)) (hlt : p * (b.length + 1) + q < K.length) : K[p * (b.length + 1) + q] = ((lcs (a.drop p) (b.drop q) : Nat) : Int) := by
  have := h.2 p q hp hq hh
  rw [List.getElem?_eq_getElem hlt] at this
  exact Option.some.inj this
theorem KP.lt {a b : List (List UInt8)} {K : List Int} {i k : Int} (h : KP a b K i k) (p q : Nat) (hp : p ≤ a.length) (hq : q ≤ b.length) : p * (b.length + 1) + q < K.length := by
  rw [h.1]; exact flat_lt (by omega) (by omega)
theorem KP.set {a b : List (List UInt8)} {K : List Int} {i k : Int} {x : Int} (h : KP a b K i k) (p0 q0 : Nat) (hp : i = p0) (hq : k = q0) (hp2 : p0 < a.length) (hq2 : q0 < b.length) (hx : x = ((lcs (a.drop p0) (b.drop q0) : Nat) : Int)) : KP a b (K.set (p0 * (b.length + 1) + q0) x) i (k - 1) := by
  refine ⟨by simp [h.1], fun p q hpa hqb hh => ?_⟩
  rw [List.getElem?_set]
  by_cases e : p0 * (b.length + 1) + q0 = p * (b.length + 1) + q
  · obtain ⟨rfl, rfl⟩ := flat_inj (by omega) (by omega) e
    rw [if_pos rfl, if_pos (h.lt _ _ hpa hqb), hx]
  · rw [if_neg e]
    refine h.2 p q hpa hqb ?_
    by_cases hpq : p = p0 ∧ q = q0
    · obtain ⟨rfl, rfl⟩ := hpq; exact absurd rfl e
    · omega
theorem KP.all {a b : List (List UInt8)} {K : List Int} {i k : Int} (h : KP a b K i k) (hi : i < 0) (p q : Nat) (hp : p ≤ a.length) (hq : q ≤ b.length) (hlt : p * (b.length + 1) + q < K.length) : K[p * (b.length + 1) + q] = ((lcs (a.drop p) (b.drop q) : Nat) : Int) := h.get p q hp hq (by omega) hlt
theorem lij_eq (a b : List (List UInt8)) (i j : Nat) (hi : i < a.length) (hj : j < b.length) (h : a[i] = b[j]) : lcs (a.drop i) (b.drop j) = lcs (a.drop (i + 1)) (b.drop (j + 1)) + 1 := by
  rw [dropc a i hi, dropc b j hj, h, lcs_same]
theorem lij_ne (a b : List (List UInt8)) (i j : Nat) (hi : i < a.length) (hj : j < b.length) (h : a[i] ≠ b[j]) : lcs (a.drop i) (b.drop j) = max (lcs (a.drop (i + 1)) (b.drop j)) (lcs (a.drop i) (b.drop (j + 1))) := by
  rw [dropc a i hi, dropc b j hj, lcs_cons, if_neg h, ← dropc a i hi, ← dropc b j hj]
theorem lij_bd (a b : List (List UInt8)) (i j : Nat) (hi : i < a.length) (hj : j < b.length) : lcs (a.drop (i + 1)) (b.drop j) ≤ lcs (a.drop (i + 1)) (b.drop (j + 1)) + 1 ∧ lcs (a.drop i) (b.drop (j + 1)) ≤ lcs (a.drop (i + 1)) (b.drop (j + 1)) + 1 ∧ lcs (a.drop (i + 1)) (b.drop (j + 1)) ≤ a.length := by
  rw [dropc a i hi, dropc b j hj]
  have := lcs_right b[j] (a.drop (i + 1)) (b.drop (j + 1))
  have := lcs_left a[i] (a.drop (i + 1)) (b.drop (j + 1))
  have := lcs_le (a.drop (i + 1)) (b.drop (j + 1))
  rw [List.length_drop] at this
  omega

set_option maxHeartbeats 2000000 in
theorem rdiff_ct (va vb : Value) (a b : List (List UInt8)) (w0 : World) (H0 : Heap)
    (ha : RdT H0 fS 1 va a) (hb : RdT H0 fS 1 vb b) :
    Ct Try.prog w0 61 #[va, vb] H0 (fun r H2 => ∃ v, r = .tuple #[v, .int .i64 (if 4000 < a.length ∨ 4000 < b.length then 4 else 0)] ∧ Own (fun c => H0.size ≤ c) 104 H2 fE 2 v (if 4000 < a.length ∨ 4000 < b.length then [] else script a b) ∧ Nw H0 H2) := by
  refine Ct.enter (args := [va, vb]) Try.func61 rfl rfl rfl ?_
  intro Q0 hret
  have hal := ha.len
  have hbl := hb.len
  replace ha := ha.lt
  replace hb := hb.lt
  refine CW.seq (fun K1 hK1 hE1 => ?_)
  refine CW.region ?_
  refine LR.v (Y.assign rfl rfl) (Wd.u rfl) rfl rfl ?_
  refine LR.v (Y.assign rfl rfl) (Wd.u rfl) rfl rfl ?_
  refine LR.nil ?_
  refine hK1 _ _ ?_
  refine CW.seq (fun K2 hK2 hE2 => ?_)
  refine CW.seq (fun K3 hK3 hE3 => ?_)
  refine CW.region ?_
  refine LR.v (Y.move rfl rfl) (Wd.u rfl) rfl rfl ?_
  refine LR.v (Y.len ha rfl Try.runUnderlying32 rfl) (Wd.u rfl) rfl rfl ?_
  refine LR.v (Y.gtr rfl rfl rfl) (Wd.u rfl) rfl rfl ?_
  refine LR.v (Y.move rfl rfl) (Wd.u rfl) rfl rfl ?_
  refine LR.splitp (d := 17) rfl (fun g17 => ?_) (fun g17 => ?_)
  ·
    refine LR.gs rfl rfl rfl rfl rfl rfl ?_
    refine LR.gs rfl rfl rfl rfl rfl rfl ?_
    refine LR.gs rfl rfl rfl rfl rfl rfl ?_
    refine LR.v (Y.pick_t rfl rfl rfl) (Wd.u rfl) rfl rfl ?_
    refine LR.nil ?_
    refine hK3 _ _ ?_
    refine CW.cond_t rfl ?_
    refine CW.seq (fun K4 hK4 hE4 => ?_)
    refine CW.region ?_
    refine LR.v (Y.assign rfl rfl) (Wd.u rfl) rfl rfl ?_
    refine LR.v (Y.assign rfl rfl) (Wd.u rfl) rfl rfl ?_
    refine LR.nil ?_
    refine hK4 _ _ ?_
    refine CW.ret (hE2 .ret nofun _ _ (hret .ret (.inr rfl) _ _ _ (res2 rfl rfl rfl) ?_))
    exact ⟨_, by rw [if_pos (by omega)], by rw [if_pos (by omega)]; exact Own.nil fE_len fE_one, Nw.refl _⟩
  ·
    refine LR.v (Y.move rfl rfl) (Wd.g rfl rfl rfl) rfl rfl ?_
    refine LR.v (Y.len hb rfl Try.runUnderlying32 rfl) (Wd.g rfl rfl rfl) rfl rfl ?_
    refine LR.v (Y.gtr rfl rfl rfl) (Wd.g rfl rfl rfl) rfl rfl ?_
    refine LR.v (Y.pick_f rfl rfl rfl) (Wd.u rfl) rfl rfl ?_
    refine LR.nil ?_
    refine hK3 _ _ ?_
    refine CW.condp rfl (fun c21 => ?_) (fun c21 => ?_)
    ·
      refine CW.seq (fun K5 hK5 hE5 => ?_)
      refine CW.region ?_
      refine LR.v (Y.assign rfl rfl) (Wd.u rfl) rfl rfl ?_
      refine LR.v (Y.assign rfl rfl) (Wd.u rfl) rfl rfl ?_
      refine LR.nil ?_
      refine hK5 _ _ ?_
      refine CW.ret (hE2 .ret nofun _ _ (hret .ret (.inr rfl) _ _ _ (res2 rfl rfl rfl) ?_))
      exact ⟨_, by rw [if_pos (by omega)], by rw [if_pos (by omega)]; exact Own.nil fE_len fE_one, Nw.refl _⟩
    ·
      refine CW.skip ?_
      refine hK2 _ _ ?_
      refine CW.seq (fun K6 hK6 hE6 => ?_)
      refine CW.region ?_
      refine LR.v (Y.move rfl rfl) (Wd.u rfl) rfl rfl ?_
      refine LR.v (Y.len hb rfl Try.runUnderlying32 rfl) (Wd.u rfl) rfl rfl ?_
      refine LR.v (Y.addi rfl rfl rfl (by omega)) (Wd.u rfl) rfl rfl ?_
      refine LR.v (Y.assign rfl rfl) (Wd.u rfl) rfl rfl ?_
      refine LR.nil ?_
      refine hK6 _ _ ?_
      refine CW.seq (fun K7 hK7 hE7 => ?_)
      refine CW.region ?_
      refine LR.v (Y.move rfl rfl) (Wd.u rfl) rfl rfl ?_
      refine LR.v (Y.len ha rfl Try.runUnderlying32 rfl) (Wd.u rfl) rfl rfl ?_
      refine LR.v (Y.addi rfl rfl rfl (by omega)) (Wd.u rfl) rfl rfl ?_
      refine LR.v (Y.move rfl rfl) (Wd.u rfl) rfl rfl ?_
      refine LR.v (Y.muli rfl rfl rfl (by have := mulb (a.length + 1) (b.length + 1) (by omega) (by omega); omega)) (Wd.u rfl) rfl rfl ?_
      have hmb := mulb (a.length + 1) (b.length + 1) (by omega) (by omega)
      have hmn : (((a.length + 1) * (b.length + 1) : Nat) : Int) ≤ 16008001 := by simpa using hmb.2
      refine LR.z (Z.makeSlice ((a.length + 1) * (b.length + 1)) ((0 : Int)) rfl inf89 Try.zeroValue3 rfl fI_len fI_one rfl rfl (by simp) (by omega) (by omega)) (Wd.u rfl) rfl rfl (fun v30 H30 r30 => ?_)
      obtain ⟨hk, hs, -⟩ := r30
      replace ha := ha.nw hs
      replace hb := hb.nw hs
      have hsz := hs.size
      have hkz := (hk.at (j := 0) (by rw [List.length_replicate]; have := flat_lt (w := b.length + 1) (i := 0) (k := 0) (n := a.length + 1) (by omega) (by omega); omega)).2.1
      have hkb := (hk.at (j := 0) (by rw [List.length_replicate]; have := flat_lt (w := b.length + 1) (i := 0) (k := 0) (n := a.length + 1) (by omega) (by omega); omega)).1
      refine LR.v (Y.assign rfl rfl) (Wd.u rfl) rfl rfl ?_
      refine LR.nil ?_
      refine hK7 _ _ ?_
      refine CW.cut (fun (K : (List Int)) => [(0, va), (1, vb), (6, .int .i64 (b.length + 1)), (7, v30)])
        (fun (K : (List Int)) (H : Heap) => Mo (fun c => c = H0.size) H30 H ∧ Own (fun c => c = H0.size) 3 H fI 1 v30 K ∧ KP a b K (-1) (b.length - 1)) (fun K8 hK8 hE8 => ?_) ?_
      ·
        refine CW.seq (fun K9 hK9 hE9 => ?_)
        refine CW.region ?_
        refine LR.v (Y.move rfl rfl) (Wd.u rfl) rfl rfl ?_
        refine LR.v (Y.len ha rfl Try.runUnderlying32 rfl) (Wd.u rfl) rfl rfl ?_
        refine LR.v (Y.subi rfl rfl rfl (by omega)) (Wd.u rfl) rfl rfl ?_
        refine LR.v (Y.assign rfl rfl) (Wd.u rfl) rfl rfl ?_
        refine LR.nil ?_
        refine hK9 _ _ ?_
        refine CW.block (fun K10 hK10 hX10 hE10 => ?_)
        refine CW.loop (fun (s_ : (Int) × (List Int)) => match s_ with | (i, K) => [(0, va), (1, vb), (6, .int .i64 (b.length + 1)), (7, v30), (8, .int .i64 i)])
          (fun (s_ : (Int) × (List Int)) (H : Heap) => match s_ with | (i, K) => -1 ≤ i ∧ i < a.length ∧ Mo (fun c => c = H0.size) H30 H ∧ Own (fun c => c = H0.size) 3 H fI 1 v30 K ∧ KP a b K i (b.length - 1))
          (fun (s_ : (Int) × (List Int)) => match s_ with | (i, K) => (i + 1).toNat) ((a.length : Int) - 1, List.replicate ((a.length + 1) * (b.length + 1)) 0) ⟨rfl, rfl, rfl, rfl, rfl, trivial⟩ ?_ ?_
        ·
          exact ⟨by omega, by omega, Mo.refl _ _, hk, KP.start a b⟩
        rintro ⟨i, K⟩ H1 hI1 K11 hN11 hE11
        obtain ⟨hi0, hi1, hm, hk, hp⟩ := hI1
        have ha1 := ha.up hm (fun c _ h1 h2 => by omega)
        have hb1 := hb.up hm (fun c _ h1 h2 => by omega)
        refine CW.seq (fun K12 hK12 hE12 => ?_)
        refine CW.seq (fun K13 hK13 hE13 => ?_)
        refine CW.region ?_
        refine LR.v (Y.move rfl rfl) (Wd.u rfl) rfl rfl ?_
        refine LR.v (Y.geq rfl rfl rfl) (Wd.u rfl) rfl rfl ?_
        refine LR.nil ?_
        refine hK13 _ _ ?_
        refine CW.condp rfl (fun c35 => ?_) (fun c35 => ?_)
        ·
          refine CW.skip ?_
          refine hK12 _ _ ?_
          refine CW.seq (fun K14 hK14 hE14 => ?_)
          refine CW.block (fun K15 hK15 hX15 hE15 => ?_)
          refine CW.seq (fun K16 hK16 hE16 => ?_)
          refine CW.region ?_
          refine LR.v (Y.move rfl rfl) (Wd.u rfl) rfl rfl ?_
          refine LR.v (Y.len hb1 rfl Try.runUnderlying32 rfl) (Wd.u rfl) rfl rfl ?_
          refine LR.v (Y.subi rfl rfl rfl (by omega)) (Wd.u rfl) rfl rfl ?_
          refine LR.v (Y.assign rfl rfl) (Wd.u rfl) rfl rfl ?_
          refine LR.nil ?_
          refine hK16 _ _ ?_
          refine CW.block (fun K17 hK17 hX17 hE17 => ?_)
          refine CW.loop (fun (s_ : (Int) × (List Int)) => match s_ with | (k, K) => [(0, va), (1, vb), (6, .int .i64 (b.length + 1)), (7, v30), (8, .int .i64 i), (9, .int .i64 k)])
            (fun (s_ : (Int) × (List Int)) (H : Heap) => match s_ with | (k, K) => -1 ≤ k ∧ k < b.length ∧ Mo (fun c => c = H0.size) H30 H ∧ Own (fun c => c = H0.size) 3 H fI 1 v30 K ∧ KP a b K i k)
            (fun (s_ : (Int) × (List Int)) => match s_ with | (k, K) => (k + 1).toNat) ((b.length : Int) - 1, K) ⟨rfl, rfl, rfl, rfl, rfl, rfl, trivial⟩ ?_ ?_
          ·
            exact ⟨by omega, by omega, hm, hk, hp⟩
          rintro ⟨k, K⟩ H2 hI2 K18 hN18 hE18
          obtain ⟨hk0, hk1, hm, hk, hp⟩ := hI2
          have ha2 := ha.up hm (fun c _ h1 h2 => by omega)
          have hb2 := hb.up hm (fun c _ h1 h2 => by omega)
          refine CW.seq (fun K19 hK19 hE19 => ?_)
          refine CW.seq (fun K20 hK20 hE20 => ?_)
          refine CW.region ?_
          refine LR.v (Y.move rfl rfl) (Wd.u rfl) rfl rfl ?_
          refine LR.v (Y.geq rfl rfl rfl) (Wd.u rfl) rfl rfl ?_
          refine LR.nil ?_
          refine hK20 _ _ ?_
          refine CW.condp rfl (fun c42 => ?_) (fun c42 => ?_)
          ·
            have hb1 := mulb (i + 1) (b.length + 1) (by omega) (by omega)
            have hb2' := mulb i (b.length + 1) (by omega) (by omega)
            have hl1 := hp.lt (i.toNat + 1) k.toNat (by omega) (by omega)
            have hl2 := hp.lt i.toNat (k.toNat + 1) (by omega) (by omega)
            have hl3 := hp.lt (i.toNat + 1) (k.toNat + 1) (by omega) (by omega)
            have hl4 := hp.lt i.toNat k.toNat (by omega) (by omega)
            have g1 := hp.get (i.toNat + 1) k.toNat (by omega) (by omega) (by omega) hl1
            have g2 := hp.get i.toNat (k.toNat + 1) (by omega) (by omega) (by omega) hl2
            have g3 := hp.get (i.toNat + 1) (k.toNat + 1) (by omega) (by omega) (by omega) hl3
            have hbd := lij_bd a b i.toNat k.toNat (by omega) (by omega)
            refine CW.skip ?_
            refine hK19 _ _ ?_
            refine CW.seq (fun K21 hK21 hE21 => ?_)
            refine CW.block (fun K22 hK22 hX22 hE22 => ?_)
            refine CW.seq (fun K23 hK23 hE23 => ?_)
            refine CW.region_draw rfl (by kernel_rfl) ?_
            refine LR.v (Y.move rfl rfl) (Wd.u rfl) rfl rfl ?_
            refine LR.v (Y.move rfl rfl) (Wd.u rfl) rfl rfl ?_
            refine LR.v (Y.addi rfl rfl rfl (by omega)) (Wd.u rfl) rfl rfl ?_
            refine LR.v (Y.move rfl rfl) (Wd.u rfl) rfl rfl ?_
            refine LR.v (Y.muli rfl rfl rfl (by omega)) (Wd.u rfl) rfl rfl ?_
            refine LR.v (Y.move rfl rfl) (Wd.u rfl) rfl rfl ?_
            refine LR.v (Y.addi rfl rfl rfl (by omega)) (Wd.u rfl) rfl rfl ?_
            refine LR.v (Y.ownAddr hk ((i.toNat + 1) * (b.length + 1) + k.toNat) rfl Try.runUnderlying89 Try.sizeOf3 rfl rfl (idx _ _ _ _ _ _ (by omega) (by omega) (by omega)) (hl1)) (Wd.u rfl) rfl rfl ?_
            refine LR.v (Y.load1 (hk.pt (j := (i.toNat + 1) * (b.length + 1) + k.toNat) (hl1)) rfl Try.isAgg3 rfl) (Wd.u rfl) rfl rfl ?_
            refine LR.v (Y.move rfl rfl) (Wd.u rfl) rfl rfl ?_
            refine LR.v (Y.move rfl rfl) (Wd.u rfl) rfl rfl ?_
            refine LR.v (Y.move rfl rfl) (Wd.u rfl) rfl rfl ?_
            refine LR.v (Y.muli rfl rfl rfl (by omega)) (Wd.u rfl) rfl rfl ?_
            refine LR.v (Y.move rfl rfl) (Wd.u rfl) rfl rfl ?_
            refine LR.v (Y.addi rfl rfl rfl (by omega)) (Wd.u rfl) rfl rfl ?_
            refine LR.v (Y.addi rfl rfl rfl (by omega)) (Wd.u rfl) rfl rfl ?_
            refine LR.v (Y.ownAddr hk (i.toNat * (b.length + 1) + (k.toNat + 1)) rfl Try.runUnderlying89 Try.sizeOf3 rfl rfl (idx1 _ _ _ _ _ _ (by omega) (by omega) (by omega)) (hl2)) (Wd.u rfl) rfl rfl ?_
            refine LR.v (Y.load1 (hk.pt (j := i.toNat * (b.length + 1) + (k.toNat + 1)) (hl2)) rfl Try.isAgg3 rfl) (Wd.u rfl) rfl rfl ?_
            refine LR.v (Y.maxi rfl rfl rfl) (Wd.u rfl) rfl rfl ?_
            refine LR.v (Y.assign rfl rfl) (Wd.u rfl) rfl rfl ?_
            refine LR.nil ?_
            refine hK23 _ _ ?_
            refine CW.cut (fun (x : (Int)) => [(0, va), (1, vb), (6, .int .i64 (b.length + 1)), (7, v30), (8, .int .i64 i), (9, .int .i64 k), (10, .int .i64 x)])
              (fun (x : (Int)) (H : Heap) => H = H2 ∧ x = ((lcs (a.drop i.toNat) (b.drop k.toNat) : Nat) : Int)) (fun K24 hK24 hE24 => ?_) ?_
            ·
              refine CW.seq (fun K25 hK25 hE25 => ?_)
              refine CW.region_draw rfl (by kernel_rfl) ?_
              refine LR.v (Y.move rfl rfl) (Wd.u rfl) rfl rfl ?_
              refine LR.v (Y.move rfl rfl) (Wd.u rfl) rfl rfl ?_
              refine LR.e (g := fun ad => .pointer (some ad)) (Y.indexAddr ha2 (i.toNat) rfl Try.runUnderlying32 Try.sizeOf9 rfl rfl (by first | rfl | omega) (by first | omega | (simp; omega) | (simp; done))) (Wd.u rfl) rfl rfl (fun ad66 pt66 => ?_)
              refine LR.v (Y.load1 pt66 rfl Try.isAgg9 rfl) (Wd.u rfl) rfl rfl ?_
              refine LR.v (Y.move rfl rfl) (Wd.u rfl) rfl rfl ?_
              refine LR.v (Y.move rfl rfl) (Wd.u rfl) rfl rfl ?_
              refine LR.e (g := fun ad => .pointer (some ad)) (Y.indexAddr hb2 (k.toNat) rfl Try.runUnderlying32 Try.sizeOf9 rfl rfl (by first | rfl | omega) (by first | omega | (simp; omega) | (simp; done))) (Wd.u rfl) rfl rfl (fun ad70 pt70 => ?_)
              refine LR.v (Y.load1 pt70 rfl Try.isAgg9 rfl) (Wd.u rfl) rfl rfl ?_
              refine LR.v (Y.seql rfl rfl rfl) (Wd.u rfl) rfl rfl ?_
              refine LR.nil ?_
              refine hK25 _ _ ?_
              refine CW.condp rfl (fun c72 => ?_) (fun c72 => ?_)
              ·
                refine CW.region ?_
                refine LR.v (Y.move rfl rfl) (Wd.u rfl) rfl rfl ?_
                refine LR.v (Y.move rfl rfl) (Wd.u rfl) rfl rfl ?_
                refine LR.v (Y.move rfl rfl) (Wd.u rfl) rfl rfl ?_
                refine LR.v (Y.addi rfl rfl rfl (by omega)) (Wd.u rfl) rfl rfl ?_
                refine LR.v (Y.move rfl rfl) (Wd.u rfl) rfl rfl ?_
                refine LR.v (Y.muli rfl rfl rfl (by omega)) (Wd.u rfl) rfl rfl ?_
                refine LR.v (Y.move rfl rfl) (Wd.u rfl) rfl rfl ?_
                refine LR.v (Y.addi rfl rfl rfl (by omega)) (Wd.u rfl) rfl rfl ?_
                refine LR.v (Y.addi rfl rfl rfl (by omega)) (Wd.u rfl) rfl rfl ?_
                refine LR.v (Y.ownAddr hk ((i.toNat + 1) * (b.length + 1) + (k.toNat + 1)) rfl Try.runUnderlying89 Try.sizeOf3 rfl rfl (idx1 _ _ _ _ _ _ (by omega) (by omega) (by omega)) (hl3)) (Wd.u rfl) rfl rfl ?_
                refine LR.v (Y.load1 (hk.pt (j := (i.toNat + 1) * (b.length + 1) + (k.toNat + 1)) (hl3)) rfl Try.isAgg3 rfl) (Wd.u rfl) rfl rfl ?_
                refine LR.v (Y.addi rfl rfl rfl (by omega)) (Wd.u rfl) rfl rfl ?_
                refine LR.v (Y.maxi rfl rfl rfl) (Wd.u rfl) rfl rfl ?_
                refine LR.v (Y.assign rfl rfl) (Wd.u rfl) rfl rfl ?_
                refine LR.nil ?_
                refine QN.sub (hK24 _ _ ?_) ⟨rfl, rfl, (iv (by omega)), rfl, (iv (by omega)), (iv (by omega)), rfl, trivial⟩
                refine ⟨rfl, ?_⟩
                rw [g1, g2, g3, lij_eq a b _ _ (by omega) (by omega) c72]; omega
              ·
                refine CW.skip ?_
                refine QN.sub (hK24 _ _ ?_) ⟨rfl, rfl, (iv (by omega)), rfl, (iv (by omega)), (iv (by omega)), rfl, trivial⟩
                refine ⟨rfl, ?_⟩
                rw [g1, g2, lij_ne a b _ _ (by omega) (by omega) c72]; omega
            ·
              intro x Hcutc72 hIcutc72
              obtain ⟨rfl, rfl⟩ := hIcutc72
              refine CW.region ?_
              refine LR.v (Y.move rfl rfl) (Wd.u rfl) rfl rfl ?_
              refine LR.v (Y.move rfl rfl) (Wd.u rfl) rfl rfl ?_
              refine LR.v (Y.move rfl rfl) (Wd.u rfl) rfl rfl ?_
              refine LR.v (Y.muli rfl rfl rfl (by omega)) (Wd.u rfl) rfl rfl ?_
              refine LR.v (Y.move rfl rfl) (Wd.u rfl) rfl rfl ?_
              refine LR.v (Y.addi rfl rfl rfl (by omega)) (Wd.u rfl) rfl rfl ?_
              refine LR.v (Y.move rfl rfl) (Wd.u rfl) rfl rfl ?_
              refine LR.v (Y.ownAddr hk (i.toNat * (b.length + 1) + k.toNat) rfl Try.runUnderlying89 Try.sizeOf3 rfl rfl (idx _ _ _ _ _ _ (by omega) (by omega) (by omega)) (hl4)) (Wd.u rfl) rfl rfl ?_
              refine LR.s (S.own hk (i.toNat * (b.length + 1) + k.toNat) 0 (_) rfl rfl rfl rfl Try.sizeOf3 (hl4) (by decide) (rfl)) (Wd.u rfl) rfl (fun H14_8 r14_8 => ?_)
              obtain ⟨hk2, hs14⟩ := r14_8
              have hm2 := hm.trans hs14 (fun _ _ e => e) (fun c _ e => by rw [e]; exact (hk.at (j := i.toNat * (b.length + 1) + k.toNat) hl4).1)
              refine LR.nil ?_
              refine hK22 _ _ ?_
              refine hK21 _ _ ?_
              refine CW.region ?_
              refine LR.v (Y.move rfl rfl) (Wd.u rfl) rfl rfl ?_
              refine LR.v (Y.subi rfl rfl rfl (by omega)) (Wd.u rfl) rfl rfl ?_
              refine LR.v (Y.assign rfl rfl) (Wd.u rfl) rfl rfl ?_
              refine LR.nil ?_
              refine QN.sub (hN18 (k - 1, K.set (i.toNat * (b.length + 1) + k.toNat) ((lcs (a.drop i.toNat) (b.drop k.toNat) : Nat) : Int)) _ ?_ ?_) ⟨rfl, rfl, (iv (by omega)), rfl, (iv (by omega)), (iv (by omega)), trivial⟩
              · exact ⟨by omega, by omega, hm2, hk2, hp.set _ _ (by omega) (by omega) (by omega) (by omega) rfl⟩
              · show (k - 1 + 1).toNat < (k + 1).toNat; omega
          ·
            refine CW.exit (hE19 (.exit 2) nofun _ _ (hE18 (.exit 2) nofun _ _ (hX17 _ _ ?_)))
            refine hK15 _ _ ?_
            refine hK14 _ _ ?_
            refine CW.region ?_
            refine LR.v (Y.move rfl rfl) (Wd.u rfl) rfl rfl ?_
            refine LR.v (Y.subi rfl rfl rfl (by omega)) (Wd.u rfl) rfl rfl ?_
            refine LR.v (Y.assign rfl rfl) (Wd.u rfl) rfl rfl ?_
            refine LR.nil ?_
            refine QN.sub (hN11 (i - 1, K) _ ?_ ?_) ⟨rfl, rfl, (iv (by omega)), rfl, (iv (by omega)), trivial⟩
            · exact ⟨by omega, by omega, hm, hk, hp.row (by omega)⟩
            · show (i - 1 + 1).toNat < (i + 1).toNat; omega
        ·
          refine CW.exit (hE12 (.exit 0) nofun _ _ (hE11 (.exit 0) nofun _ _ (hX10 _ _ ?_)))
          obtain rfl : i = -1 := by omega
          refine QN.sub (hK8 K _ ?_) ⟨rfl, rfl, (iv (by omega)), rfl, trivial⟩
          exact ⟨hm, hk, hp⟩
      ·
        intro K Hcut0 hIcut0
        obtain ⟨hm, hk, hp⟩ := hIcut0
        replace ha := ha.up hm (fun c _ h1 h2 => by omega)
        replace hb := hb.up hm (fun c _ h1 h2 => by omega)
        replace hs := hs.trans hm (fun _ _ e => e) (fun c hb e => (by omega : False))
        have hz30 := hm.size
        have hK := fun p q hp1 hq1 => hp.all (by omega) p q hp1 hq1 (hp.lt p q hp1 hq1)
        have hKl := fun p q hp1 hq1 => hp.lt p q hp1 hq1
        refine CW.seq (fun K26 hK26 hE26 => ?_)
        refine CW.region ?_
        refine LR.v (Y.assign rfl rfl) (Wd.u rfl) rfl rfl ?_
        refine LR.nil ?_
        refine hK26 _ _ ?_
        refine CW.seq (fun K27 hK27 hE27 => ?_)
        refine CW.region ?_
        refine LR.v (Y.assign rfl rfl) (Wd.u rfl) rfl rfl ?_
        refine LR.v (Y.assign rfl rfl) (Wd.u rfl) rfl rfl ?_
        refine LR.nil ?_
        refine hK27 _ _ ?_
        refine CW.seq (fun K28 hK28 hE28 => ?_)
        refine CW.block (fun K29 hK29 hX29 hE29 => ?_)
        refine CW.loop (fun (s_ : (Nat) × (Nat) × (Value) × (List Int)) => match s_ with | (i, j, vo, done) => [(0, va), (1, vb), (6, .int .i64 (b.length + 1)), (7, v30), (11, vo), (12, .int .i64 i), (13, .int .i64 j)])
          (fun (s_ : (Nat) × (Nat) × (Value) × (List Int)) (H : Heap) => match s_ with | (i, j, vo, done) => i ≤ a.length ∧ j ≤ b.length ∧ done ++ W (a.drop i) (b.drop j) = W a b ∧ Mo (fun c => H30.size ≤ c) Hcut0 H ∧ Own (fun c => H30.size ≤ c) 104 H fE 2 vo (runs done))
          (fun (s_ : (Nat) × (Nat) × (Value) × (List Int)) => match s_ with | (i, j, vo, done) => a.length - i + (b.length - j)) (0, 0, .slice none 0 0, []) ⟨rfl, rfl, rfl, rfl, rfl, rfl, rfl, trivial⟩ ?_ ?_
        ·
          exact ⟨by omega, by omega, by simp, Mo.refl _ _, Own.nil fE_len fE_one⟩
        rintro ⟨i, j, vo, done⟩ H3 hI3 K30 hN30 hE30
        obtain ⟨hi, hj, hW, hm2, ho⟩ := hI3
        have ha2 := ha.up hm2 (fun c _ h1 h2 => by omega)
        have hb2 := hb.up hm2 (fun c _ h1 h2 => by omega)
        have hk2 := hk.up hm2 (fun c _ h1 h2 => by omega)
        have hdl : done.length ≤ 100000 := by have h1 := congrArg List.length hW; have h2 := W_len a b; rw [List.length_append] at h1; omega
        have hbd := runs_bd done hdl
        have hz2 := hm2.size
        have hb1 := mulb (i + 1) (b.length + 1)
        have hb2' := mulb i (b.length + 1) (by omega) (by omega)
        refine CW.seq (fun K31 hK31 hE31 => ?_)
        refine CW.seq (fun K32 hK32 hE32 => ?_)
        refine CW.region ?_
        refine LR.v (Y.move rfl rfl) (Wd.u rfl) rfl rfl ?_
        refine LR.v (Y.move rfl rfl) (Wd.u rfl) rfl rfl ?_
        refine LR.v (Y.len ha2 rfl Try.runUnderlying32 rfl) (Wd.u rfl) rfl rfl ?_
        refine LR.v (Y.lss rfl rfl rfl) (Wd.u rfl) rfl rfl ?_
        refine LR.v (Y.move rfl rfl) (Wd.u rfl) rfl rfl ?_
        refine LR.splitp (d := 98) rfl (fun g98 => ?_) (fun g98 => ?_)
        ·
          refine LR.gs rfl rfl rfl rfl rfl rfl ?_
          refine LR.gs rfl rfl rfl rfl rfl rfl ?_
          refine LR.gs rfl rfl rfl rfl rfl rfl ?_
          refine LR.gs rfl rfl rfl rfl rfl rfl ?_
          refine LR.v (Y.pick_t rfl rfl rfl) (Wd.u rfl) rfl rfl ?_
          refine LR.nil ?_
          refine hK32 _ _ ?_
          refine CW.cond_t rfl ?_
          refine CW.skip ?_
          refine hK31 _ _ ?_
          refine CW.block (fun K33 hK33 hX33 hE33 => ?_)
          refine CW.block (fun K34 hK34 hX34 hE34 => ?_)
          refine CW.seq (fun K35 hK35 hE35 => ?_)
          refine CW.region_draw rfl (by kernel_rfl) ?_
          refine LR.v (Y.move rfl rfl) (Wd.u rfl) rfl rfl ?_
          refine LR.v (Y.move rfl rfl) (Wd.u rfl) rfl rfl ?_
          refine LR.v (Y.len ha2 rfl Try.runUnderlying32 rfl) (Wd.u rfl) rfl rfl ?_
          refine LR.v (Y.lss rfl rfl rfl) (Wd.u rfl) rfl rfl ?_
          refine LR.v (Y.move rfl rfl) (Wd.u rfl) rfl rfl ?_
          refine LR.splitp (d := 113) rfl (fun g113 => ?_) (fun g113 => ?_)
          ·
            refine LR.v (Y.move rfl rfl) (Wd.g rfl rfl rfl) rfl rfl ?_
            refine LR.v (Y.move rfl rfl) (Wd.g rfl rfl rfl) rfl rfl ?_
            refine LR.v (Y.len hb2 rfl Try.runUnderlying32 rfl) (Wd.g rfl rfl rfl) rfl rfl ?_
            refine LR.v (Y.lss rfl rfl rfl) (Wd.g rfl rfl rfl) rfl rfl ?_
            refine LR.v (Y.pick_t rfl rfl rfl) (Wd.u rfl) rfl rfl ?_
            refine LR.v (Y.move rfl rfl) (Wd.u rfl) rfl rfl ?_
            refine LR.splitp (d := 119) rfl (fun g119 => ?_) (fun g119 => ?_)
            ·
              refine LR.v (Y.move rfl rfl) (Wd.g rfl rfl rfl) rfl rfl ?_
              refine LR.v (Y.move rfl rfl) (Wd.g rfl rfl rfl) rfl rfl ?_
              refine LR.e (g := fun ad => .pointer (some ad)) (Y.indexAddr ha2 (i) rfl Try.runUnderlying32 Try.sizeOf9 rfl rfl (by first | rfl | omega) (by first | omega | (simp; omega) | (simp; done))) (Wd.g rfl rfl rfl) rfl rfl (fun ad122 pt122 => ?_)
              refine LR.v (Y.load1 pt122 rfl Try.isAgg9 rfl) (Wd.g rfl rfl rfl) rfl rfl ?_
              refine LR.v (Y.move rfl rfl) (Wd.g rfl rfl rfl) rfl rfl ?_
              refine LR.v (Y.move rfl rfl) (Wd.g rfl rfl rfl) rfl rfl ?_
              refine LR.e (g := fun ad => .pointer (some ad)) (Y.indexAddr hb2 (j) rfl Try.runUnderlying32 Try.sizeOf9 rfl rfl (by first | rfl | omega) (by first | omega | (simp; omega) | (simp; done))) (Wd.g rfl rfl rfl) rfl rfl (fun ad126 pt126 => ?_)
              refine LR.v (Y.load1 pt126 rfl Try.isAgg9 rfl) (Wd.g rfl rfl rfl) rfl rfl ?_
              refine LR.v (Y.seql rfl rfl rfl) (Wd.g rfl rfl rfl) rfl rfl ?_
              refine LR.v (Y.pick_t rfl rfl rfl) (Wd.u rfl) rfl rfl ?_
              refine LR.v (Y.move rfl rfl) (Wd.u rfl) rfl rfl ?_
              refine LR.splitp (d := 130) rfl (fun g130 => ?_) (fun g130 => ?_)
              ·
                refine LR.v (Y.move rfl rfl) (Wd.g rfl rfl rfl) rfl rfl ?_
                refine LR.v (Y.move rfl rfl) (Wd.g rfl rfl rfl) rfl rfl ?_
                refine LR.v (Y.move rfl rfl) (Wd.g rfl rfl rfl) rfl rfl ?_
                refine LR.v (Y.muli rfl rfl rfl (by omega)) (Wd.g rfl rfl rfl) rfl rfl ?_
                refine LR.v (Y.move rfl rfl) (Wd.g rfl rfl rfl) rfl rfl ?_
                refine LR.v (Y.addi rfl rfl rfl (by omega)) (Wd.g rfl rfl rfl) rfl rfl ?_
                replace hb1 := hb1 (by omega) (by omega)
                refine LR.v (Y.ownAddr hk2 (i * (b.length + 1) + j) rfl Try.runUnderlying89 Try.sizeOf3 rfl rfl (idx _ _ _ _ _ _ (by omega) (by omega) (by omega)) (hKl i j (by omega) (by omega))) (Wd.g rfl rfl rfl) rfl rfl ?_
                refine LR.v (Y.load1 (hk2.pt (j := i * (b.length + 1) + j) (hKl i j (by omega) (by omega))) rfl Try.isAgg3 rfl) (Wd.g rfl rfl rfl) rfl rfl ?_
                refine LR.v (Y.move rfl rfl) (Wd.g rfl rfl rfl) rfl rfl ?_
                refine LR.v (Y.move rfl rfl) (Wd.g rfl rfl rfl) rfl rfl ?_
                refine LR.v (Y.addi rfl rfl rfl (by omega)) (Wd.g rfl rfl rfl) rfl rfl ?_
                refine LR.v (Y.move rfl rfl) (Wd.g rfl rfl rfl) rfl rfl ?_
                refine LR.v (Y.muli rfl rfl rfl (by omega)) (Wd.g rfl rfl rfl) rfl rfl ?_
                refine LR.v (Y.move rfl rfl) (Wd.g rfl rfl rfl) rfl rfl ?_
                refine LR.v (Y.addi rfl rfl rfl (by omega)) (Wd.g rfl rfl rfl) rfl rfl ?_
                refine LR.v (Y.addi rfl rfl rfl (by omega)) (Wd.g rfl rfl rfl) rfl rfl ?_
                refine LR.v (Y.ownAddr hk2 ((i + 1) * (b.length + 1) + (j + 1)) rfl Try.runUnderlying89 Try.sizeOf3 rfl rfl (idx1 _ _ _ _ _ _ (by omega) (by omega) (by omega)) (hKl (i+1) (j+1) (by omega) (by omega))) (Wd.g rfl rfl rfl) rfl rfl ?_
                refine LR.v (Y.load1 (hk2.pt (j := (i + 1) * (b.length + 1) + (j + 1)) (hKl (i+1) (j+1) (by omega) (by omega))) rfl Try.isAgg3 rfl) (Wd.g rfl rfl rfl) rfl rfl ?_
                have hbd2 := lij_bd a b i j (by omega) (by omega)
                have hk11 := hK (i + 1) (j + 1) (by omega) (by omega)
                refine LR.v (Y.addi rfl rfl rfl (by omega)) (Wd.g rfl rfl rfl) rfl rfl ?_
                refine LR.v ((Y.eql rfl rfl rfl).isT (by rw [hK _ _ (by omega) (by omega), hK _ _ (by omega) (by omega), lij_eq a b i j (by omega) (by omega) g130]; rfl)) (Wd.g rfl rfl rfl) rfl rfl ?_
                refine LR.v (Y.pick_t rfl rfl rfl) (Wd.u rfl) rfl rfl ?_
                refine LR.v (Y.assign rfl rfl) (Wd.u rfl) rfl rfl ?_
                refine LR.nil ?_
                refine hK35 _ _ ?_
                refine CW.cond_t rfl ?_
                refine CW.seq (fun K36 hK36 hE36 => ?_)
                refine CW.region ?_
                refine LR.v (Y.move rfl rfl) (Wd.u rfl) rfl rfl ?_
                -- call selvage/selvageref12.run
                refine LR.call rfl Try.call69 rfl (Wd.u rfl) rfl rfl (run_ct _ _ _ _ w0 H3 ho hbd.1 hbd.2) (fun v153 H153 r153 => ?_)
                obtain ⟨ho2, hs153⟩ := r153
                replace ho2 := ho2.imp (G' := fun c => H30.size ≤ c) (fun c _ h => h.elim id (fun h => Nat.le_trans (Nat.le_trans hz30 hz2) h))
                have hm3 := hm2.trans hs153 (fun _ _ e => e) (fun c _ e => e)
                refine LR.v (Y.assign rfl rfl) (Wd.u rfl) rfl rfl ?_
                refine LR.nil ?_
                refine hK36 _ _ ?_
                refine CW.seq (fun K37 hK37 hE37 => ?_)
                refine CW.region ?_
                refine LR.v (Y.move rfl rfl) (Wd.u rfl) rfl rfl ?_
                refine LR.v (Y.addi rfl rfl rfl (by omega)) (Wd.u rfl) rfl rfl ?_
                refine LR.v (Y.assign rfl rfl) (Wd.u rfl) rfl rfl ?_
                refine LR.nil ?_
                refine hK37 _ _ ?_
                refine CW.region ?_
                refine LR.v (Y.move rfl rfl) (Wd.u rfl) rfl rfl ?_
                refine LR.v (Y.addi rfl rfl rfl (by omega)) (Wd.u rfl) rfl rfl ?_
                refine LR.v (Y.assign rfl rfl) (Wd.u rfl) rfl rfl ?_
                refine LR.nil ?_
                refine hK34 _ _ ?_
                refine hK33 _ _ ?_
                refine QN.sub (hN30 (i + 1, j + 1, v153, done ++ [0]) _ ?_ ?_) ⟨rfl, rfl, (iv (by omega)), rfl, rfl, (iv (by omega)), (iv (by omega)), trivial⟩
                · refine ⟨by omega, by omega, ?_, hm3, by rw [runs_snoc]; exact ho2⟩
                  rw [← hW, W_keep _ _ i j (by omega) (by omega) g130, List.append_assoc]; rfl
                · show a.length - (i + 1) + (b.length - (j + 1)) < a.length - i + (b.length - j); omega
              ·
                refine LR.gs rfl rfl rfl rfl rfl rfl ?_
                refine LR.gs rfl rfl rfl rfl rfl rfl ?_
                refine LR.gs rfl rfl rfl rfl rfl rfl ?_
                refine LR.gs rfl rfl rfl rfl rfl rfl ?_
                refine LR.gs rfl rfl rfl rfl rfl rfl ?_
                refine LR.gs rfl rfl rfl rfl rfl rfl ?_
                refine LR.gs rfl rfl rfl rfl rfl rfl ?_
                refine LR.gs rfl rfl rfl rfl rfl rfl ?_
                refine LR.gs rfl rfl rfl rfl rfl rfl ?_
                refine LR.gs rfl rfl rfl rfl rfl rfl ?_
                refine LR.gs rfl rfl rfl rfl rfl rfl ?_
                refine LR.gs rfl rfl rfl rfl rfl rfl ?_
                refine LR.gs rfl rfl rfl rfl rfl rfl ?_
                refine LR.gs rfl rfl rfl rfl rfl rfl ?_
                refine LR.gs rfl rfl rfl rfl rfl rfl ?_
                refine LR.gs rfl rfl rfl rfl rfl rfl ?_
                refine LR.gs rfl rfl rfl rfl rfl rfl ?_
                refine LR.gs rfl rfl rfl rfl rfl rfl ?_
                refine LR.gs rfl rfl rfl rfl rfl rfl ?_
                refine LR.gs rfl rfl rfl rfl rfl rfl ?_
                refine LR.v (Y.pick_f rfl rfl rfl) (Wd.u rfl) rfl rfl ?_
                refine LR.v (Y.assign rfl rfl) (Wd.u rfl) rfl rfl ?_
                refine LR.nil ?_
                refine hK35 _ _ ?_
                refine CW.cond_f rfl ?_
                refine CW.seq (fun K38 hK38 hE38 => ?_)
                refine CW.region_draw rfl (by kernel_rfl) ?_
                refine LR.v (Y.move rfl rfl) (Wd.u rfl) rfl rfl ?_
                refine LR.v (Y.move rfl rfl) (Wd.u rfl) rfl rfl ?_
                refine LR.v (Y.len ha2 rfl Try.runUnderlying32 rfl) (Wd.u rfl) rfl rfl ?_
                refine LR.v (Y.lss rfl rfl rfl) (Wd.u rfl) rfl rfl ?_
                refine LR.v (Y.move rfl rfl) (Wd.u rfl) rfl rfl ?_
                refine LR.splitp (d := 163) rfl (fun g163 => ?_) (fun g163 => ?_)
                ·
                  first
                  | exfalso; omega
                  | skip
                    have hb1 := hb1 (by omega) (by omega)
                    refine LR.v (Y.move rfl rfl) (Wd.g rfl rfl rfl) rfl rfl ?_
                    refine LR.v (Y.move rfl rfl) (Wd.g rfl rfl rfl) rfl rfl ?_
                    refine LR.v (Y.move rfl rfl) (Wd.g rfl rfl rfl) rfl rfl ?_
                    refine LR.v (Y.muli rfl rfl rfl (by omega)) (Wd.g rfl rfl rfl) rfl rfl ?_
                    refine LR.v (Y.move rfl rfl) (Wd.g rfl rfl rfl) rfl rfl ?_
                    refine LR.v (Y.addi rfl rfl rfl (by omega)) (Wd.g rfl rfl rfl) rfl rfl ?_
                    refine LR.v (Y.ownAddr hk2 (i * (b.length + 1) + j) rfl Try.runUnderlying89 Try.sizeOf3 rfl rfl (idx _ _ _ _ _ _ (by omega) (by omega) (by omega)) (hKl i j (by omega) (by omega))) (Wd.g rfl rfl rfl) rfl rfl ?_
                    refine LR.v (Y.load1 (hk2.pt (j := i * (b.length + 1) + j) (hKl i j (by omega) (by omega))) rfl Try.isAgg3 rfl) (Wd.g rfl rfl rfl) rfl rfl ?_
                    refine LR.v (Y.move rfl rfl) (Wd.g rfl rfl rfl) rfl rfl ?_
                    refine LR.v (Y.move rfl rfl) (Wd.g rfl rfl rfl) rfl rfl ?_
                    refine LR.v (Y.addi rfl rfl rfl (by omega)) (Wd.g rfl rfl rfl) rfl rfl ?_
                    refine LR.v (Y.move rfl rfl) (Wd.g rfl rfl rfl) rfl rfl ?_
                    refine LR.v (Y.muli rfl rfl rfl (by omega)) (Wd.g rfl rfl rfl) rfl rfl ?_
                    refine LR.v (Y.move rfl rfl) (Wd.g rfl rfl rfl) rfl rfl ?_
                    refine LR.v (Y.addi rfl rfl rfl (by omega)) (Wd.g rfl rfl rfl) rfl rfl ?_
                    refine LR.v (Y.ownAddr hk2 ((i + 1) * (b.length + 1) + j) rfl Try.runUnderlying89 Try.sizeOf3 rfl rfl (idx _ _ _ _ _ _ (by omega) (by omega) (by omega)) (hKl (i+1) j (by omega) (by omega))) (Wd.g rfl rfl rfl) rfl rfl ?_
                    refine LR.v (Y.load1 (hk2.pt (j := (i + 1) * (b.length + 1) + j) (hKl (i+1) j (by omega) (by omega))) rfl Try.isAgg3 rfl) (Wd.g rfl rfl rfl) rfl rfl ?_
                    refine LR.v (Y.eql rfl rfl rfl) (Wd.g rfl rfl rfl) rfl rfl ?_
                    refine LR.v (Y.pick_t rfl rfl rfl) (Wd.u rfl) rfl rfl ?_
                    refine LR.v (Y.assign rfl rfl) (Wd.u rfl) rfl rfl ?_
                    refine LR.nil ?_
                    refine hK38 _ _ ?_
                    refine CW.condp rfl (fun c158 => ?_) (fun c158 => ?_)
                    ·
                      first
                      | exact (c158 (by rw [hK _ _ (by omega) (by omega), hK _ _ (by omega) (by omega), List.drop_eq_nil_of_le (show b.length ≤ j by omega), lcs_nil_right, lcs_nil_right])).elim
                      | skip
                        refine CW.seq (fun K39 hK39 hE39 => ?_)
                        refine CW.region ?_
                        refine LR.v (Y.move rfl rfl) (Wd.u rfl) rfl rfl ?_
                        -- call selvage/selvageref12.run
                        refine LR.call rfl Try.call69 rfl (Wd.u rfl) rfl rfl (run_ct _ _ _ _ w0 H3 ho hbd.1 hbd.2) (fun v184 H184 r184 => ?_)
                        obtain ⟨ho2, hs184⟩ := r184
                        replace ho2 := ho2.imp (G' := fun c => H30.size ≤ c) (fun c _ h => h.elim id (fun h => Nat.le_trans (Nat.le_trans hz30 hz2) h))
                        have hm3 := hm2.trans hs184 (fun _ _ e => e) (fun c _ e => e)
                        refine LR.v (Y.assign rfl rfl) (Wd.u rfl) rfl rfl ?_
                        refine LR.nil ?_
                        refine hK39 _ _ ?_
                        refine CW.region ?_
                        refine LR.v (Y.move rfl rfl) (Wd.u rfl) rfl rfl ?_
                        refine LR.v (Y.addi rfl rfl rfl (by omega)) (Wd.u rfl) rfl rfl ?_
                        refine LR.v (Y.assign rfl rfl) (Wd.u rfl) rfl rfl ?_
                        refine LR.nil ?_
                        refine hK34 _ _ ?_
                        refine hK33 _ _ ?_
                        refine QN.sub (hN30 (i + 1, j, v184, done ++ [1]) _ ?_ ?_) ⟨rfl, rfl, (iv (by omega)), rfl, rfl, (iv (by omega)), (iv (by omega)), trivial⟩
                        · refine ⟨by omega, by omega, ?_, hm3, by rw [runs_snoc]; exact ho2⟩
                          rw [← hW, W_delete _ _ i j (by omega) (fun hj => by first | (exfalso; omega) | exact g130) (by have := c158; rw [hK _ _ (by omega) (by omega), hK _ _ (by omega) (by omega)] at this; omega), List.append_assoc]; rfl
                        · show a.length - (i + 1) + (b.length - j) < a.length - i + (b.length - j); omega
                    ·
                      first
                      | exact (c158 (by rw [hK _ _ (by omega) (by omega), hK _ _ (by omega) (by omega), List.drop_eq_nil_of_le (show b.length ≤ j by omega), lcs_nil_right, lcs_nil_right])).elim
                      | skip
                        refine CW.seq (fun K40 hK40 hE40 => ?_)
                        refine CW.region ?_
                        refine LR.v (Y.move rfl rfl) (Wd.u rfl) rfl rfl ?_
                        -- call selvage/selvageref12.run
                        refine LR.call rfl Try.call69 rfl (Wd.u rfl) rfl rfl (run_ct _ _ _ _ w0 H3 ho hbd.1 hbd.2) (fun v105 H105 r105 => ?_)
                        obtain ⟨ho2, hs105⟩ := r105
                        replace ho2 := ho2.imp (G' := fun c => H30.size ≤ c) (fun c _ h => h.elim id (fun h => Nat.le_trans (Nat.le_trans hz30 hz2) h))
                        have hm3 := hm2.trans hs105 (fun _ _ e => e) (fun c _ e => e)
                        refine LR.v (Y.assign rfl rfl) (Wd.u rfl) rfl rfl ?_
                        refine LR.nil ?_
                        refine hK40 _ _ ?_
                        refine CW.region ?_
                        refine LR.v (Y.move rfl rfl) (Wd.u rfl) rfl rfl ?_
                        refine LR.v (Y.addi rfl rfl rfl (by omega)) (Wd.u rfl) rfl rfl ?_
                        refine LR.v (Y.assign rfl rfl) (Wd.u rfl) rfl rfl ?_
                        refine LR.nil ?_
                        refine hK34 _ _ ?_
                        refine hK33 _ _ ?_
                        refine QN.sub (hN30 (i, j + 1, v105, done ++ [2]) _ ?_ ?_) ⟨rfl, rfl, (iv (by omega)), rfl, rfl, (iv (by omega)), (iv (by omega)), trivial⟩
                        · refine ⟨by omega, by omega, ?_, hm3, by rw [runs_snoc]; exact ho2⟩
                          rw [← hW, W_insert _ _ i j (by omega) (fun hi => by first | (exfalso; omega) | exact ⟨g130, fun e => c158 (by rw [hK _ _ (by omega) (by omega), hK _ _ (by omega) (by omega), e])⟩), List.append_assoc]; rfl
                        · show a.length - i + (b.length - (j + 1)) < a.length - i + (b.length - j); omega
                ·
                  first
                  | exfalso; omega
                  | skip
                    refine LR.gs rfl rfl rfl rfl rfl rfl ?_
                    refine LR.gs rfl rfl rfl rfl rfl rfl ?_
                    refine LR.gs rfl rfl rfl rfl rfl rfl ?_
                    refine LR.gs rfl rfl rfl rfl rfl rfl ?_
                    refine LR.gs rfl rfl rfl rfl rfl rfl ?_
                    refine LR.gs rfl rfl rfl rfl rfl rfl ?_
                    refine LR.gs rfl rfl rfl rfl rfl rfl ?_
                    refine LR.gs rfl rfl rfl rfl rfl rfl ?_
                    refine LR.gs rfl rfl rfl rfl rfl rfl ?_
                    refine LR.gs rfl rfl rfl rfl rfl rfl ?_
                    refine LR.gs rfl rfl rfl rfl rfl rfl ?_
                    refine LR.gs rfl rfl rfl rfl rfl rfl ?_
                    refine LR.gs rfl rfl rfl rfl rfl rfl ?_
                    refine LR.gs rfl rfl rfl rfl rfl rfl ?_
                    refine LR.gs rfl rfl rfl rfl rfl rfl ?_
                    refine LR.gs rfl rfl rfl rfl rfl rfl ?_
                    refine LR.gs rfl rfl rfl rfl rfl rfl ?_
                    refine LR.gs rfl rfl rfl rfl rfl rfl ?_
                    refine LR.v (Y.pick_f rfl rfl rfl) (Wd.u rfl) rfl rfl ?_
                    refine LR.v (Y.assign rfl rfl) (Wd.u rfl) rfl rfl ?_
                    refine LR.nil ?_
                    refine hK38 _ _ ?_
                    refine CW.cond_f rfl ?_
                    refine CW.seq (fun K41 hK41 hE41 => ?_)
                    refine CW.region ?_
                    refine LR.v (Y.move rfl rfl) (Wd.u rfl) rfl rfl ?_
                    -- call selvage/selvageref12.run
                    refine LR.call rfl Try.call69 rfl (Wd.u rfl) rfl rfl (run_ct _ _ _ _ w0 H3 ho hbd.1 hbd.2) (fun v105 H105 r105 => ?_)
                    obtain ⟨ho2, hs105⟩ := r105
                    replace ho2 := ho2.imp (G' := fun c => H30.size ≤ c) (fun c _ h => h.elim id (fun h => Nat.le_trans (Nat.le_trans hz30 hz2) h))
                    have hm3 := hm2.trans hs105 (fun _ _ e => e) (fun c _ e => e)
                    refine LR.v (Y.assign rfl rfl) (Wd.u rfl) rfl rfl ?_
                    refine LR.nil ?_
                    refine hK41 _ _ ?_
                    refine CW.region ?_
                    refine LR.v (Y.move rfl rfl) (Wd.u rfl) rfl rfl ?_
                    refine LR.v (Y.addi rfl rfl rfl (by omega)) (Wd.u rfl) rfl rfl ?_
                    refine LR.v (Y.assign rfl rfl) (Wd.u rfl) rfl rfl ?_
                    refine LR.nil ?_
                    refine hK34 _ _ ?_
                    refine hK33 _ _ ?_
                    refine QN.sub (hN30 (i, j + 1, v105, done ++ [2]) _ ?_ ?_) ⟨rfl, rfl, (iv (by omega)), rfl, rfl, (iv (by omega)), (iv (by omega)), trivial⟩
                    · refine ⟨by omega, by omega, ?_, hm3, by rw [runs_snoc]; exact ho2⟩
                      rw [← hW, W_insert _ _ i j (by omega) (fun hi => by first | (exfalso; omega) | exact ⟨g130, fun e => c158 (by rw [hK _ _ (by omega) (by omega), hK _ _ (by omega) (by omega), e])⟩), List.append_assoc]; rfl
                    · show a.length - i + (b.length - (j + 1)) < a.length - i + (b.length - j); omega
            ·
              refine LR.gs rfl rfl rfl rfl rfl rfl ?_
              refine LR.gs rfl rfl rfl rfl rfl rfl ?_
              refine LR.gs rfl rfl rfl rfl rfl rfl ?_
              refine LR.gs rfl rfl rfl rfl rfl rfl ?_
              refine LR.gs rfl rfl rfl rfl rfl rfl ?_
              refine LR.gs rfl rfl rfl rfl rfl rfl ?_
              refine LR.gs rfl rfl rfl rfl rfl rfl ?_
              refine LR.gs rfl rfl rfl rfl rfl rfl ?_
              refine LR.gs rfl rfl rfl rfl rfl rfl ?_
              refine LR.v (Y.pick_f rfl rfl rfl) (Wd.u rfl) rfl rfl ?_
              refine LR.v (Y.move rfl rfl) (Wd.u rfl) rfl rfl ?_
              refine LR.gs rfl rfl rfl rfl rfl rfl ?_
              refine LR.gs rfl rfl rfl rfl rfl rfl ?_
              refine LR.gs rfl rfl rfl rfl rfl rfl ?_
              refine LR.gs rfl rfl rfl rfl rfl rfl ?_
              refine LR.gs rfl rfl rfl rfl rfl rfl ?_
              refine LR.gs rfl rfl rfl rfl rfl rfl ?_
              refine LR.gs rfl rfl rfl rfl rfl rfl ?_
              refine LR.gs rfl rfl rfl rfl rfl rfl ?_
              refine LR.gs rfl rfl rfl rfl rfl rfl ?_
              refine LR.gs rfl rfl rfl rfl rfl rfl ?_
              refine LR.gs rfl rfl rfl rfl rfl rfl ?_
              refine LR.gs rfl rfl rfl rfl rfl rfl ?_
              refine LR.gs rfl rfl rfl rfl rfl rfl ?_
              refine LR.gs rfl rfl rfl rfl rfl rfl ?_
              refine LR.gs rfl rfl rfl rfl rfl rfl ?_
              refine LR.gs rfl rfl rfl rfl rfl rfl ?_
              refine LR.gs rfl rfl rfl rfl rfl rfl ?_
              refine LR.gs rfl rfl rfl rfl rfl rfl ?_
              refine LR.gs rfl rfl rfl rfl rfl rfl ?_
              refine LR.gs rfl rfl rfl rfl rfl rfl ?_
              refine LR.v (Y.pick_f rfl rfl rfl) (Wd.u rfl) rfl rfl ?_
              refine LR.v (Y.assign rfl rfl) (Wd.u rfl) rfl rfl ?_
              refine LR.nil ?_
              refine hK35 _ _ ?_
              refine CW.cond_f rfl ?_
              refine CW.seq (fun K42 hK42 hE42 => ?_)
              refine CW.region_draw rfl (by kernel_rfl) ?_
              refine LR.v (Y.move rfl rfl) (Wd.u rfl) rfl rfl ?_
              refine LR.v (Y.move rfl rfl) (Wd.u rfl) rfl rfl ?_
              refine LR.v (Y.len ha2 rfl Try.runUnderlying32 rfl) (Wd.u rfl) rfl rfl ?_
              refine LR.v (Y.lss rfl rfl rfl) (Wd.u rfl) rfl rfl ?_
              refine LR.v (Y.move rfl rfl) (Wd.u rfl) rfl rfl ?_
              refine LR.splitp (d := 163) rfl (fun g163 => ?_) (fun g163 => ?_)
              ·
                first
                | exfalso; omega
                | skip
                  have hb1 := hb1 (by omega) (by omega)
                  refine LR.v (Y.move rfl rfl) (Wd.g rfl rfl rfl) rfl rfl ?_
                  refine LR.v (Y.move rfl rfl) (Wd.g rfl rfl rfl) rfl rfl ?_
                  refine LR.v (Y.move rfl rfl) (Wd.g rfl rfl rfl) rfl rfl ?_
                  refine LR.v (Y.muli rfl rfl rfl (by omega)) (Wd.g rfl rfl rfl) rfl rfl ?_
                  refine LR.v (Y.move rfl rfl) (Wd.g rfl rfl rfl) rfl rfl ?_
                  refine LR.v (Y.addi rfl rfl rfl (by omega)) (Wd.g rfl rfl rfl) rfl rfl ?_
                  refine LR.v (Y.ownAddr hk2 (i * (b.length + 1) + j) rfl Try.runUnderlying89 Try.sizeOf3 rfl rfl (idx _ _ _ _ _ _ (by omega) (by omega) (by omega)) (hKl i j (by omega) (by omega))) (Wd.g rfl rfl rfl) rfl rfl ?_
                  refine LR.v (Y.load1 (hk2.pt (j := i * (b.length + 1) + j) (hKl i j (by omega) (by omega))) rfl Try.isAgg3 rfl) (Wd.g rfl rfl rfl) rfl rfl ?_
                  refine LR.v (Y.move rfl rfl) (Wd.g rfl rfl rfl) rfl rfl ?_
                  refine LR.v (Y.move rfl rfl) (Wd.g rfl rfl rfl) rfl rfl ?_
                  refine LR.v (Y.addi rfl rfl rfl (by omega)) (Wd.g rfl rfl rfl) rfl rfl ?_
                  refine LR.v (Y.move rfl rfl) (Wd.g rfl rfl rfl) rfl rfl ?_
                  refine LR.v (Y.muli rfl rfl rfl (by omega)) (Wd.g rfl rfl rfl) rfl rfl ?_
                  refine LR.v (Y.move rfl rfl) (Wd.g rfl rfl rfl) rfl rfl ?_
                  refine LR.v (Y.addi rfl rfl rfl (by omega)) (Wd.g rfl rfl rfl) rfl rfl ?_
                  refine LR.v (Y.ownAddr hk2 ((i + 1) * (b.length + 1) + j) rfl Try.runUnderlying89 Try.sizeOf3 rfl rfl (idx _ _ _ _ _ _ (by omega) (by omega) (by omega)) (hKl (i+1) j (by omega) (by omega))) (Wd.g rfl rfl rfl) rfl rfl ?_
                  refine LR.v (Y.load1 (hk2.pt (j := (i + 1) * (b.length + 1) + j) (hKl (i+1) j (by omega) (by omega))) rfl Try.isAgg3 rfl) (Wd.g rfl rfl rfl) rfl rfl ?_
                  refine LR.v (Y.eql rfl rfl rfl) (Wd.g rfl rfl rfl) rfl rfl ?_
                  refine LR.v (Y.pick_t rfl rfl rfl) (Wd.u rfl) rfl rfl ?_
                  refine LR.v (Y.assign rfl rfl) (Wd.u rfl) rfl rfl ?_
                  refine LR.nil ?_
                  refine hK42 _ _ ?_
                  refine CW.condp rfl (fun c158 => ?_) (fun c158 => ?_)
                  ·
                    first
                    | exact (c158 (by rw [hK _ _ (by omega) (by omega), hK _ _ (by omega) (by omega), List.drop_eq_nil_of_le (show b.length ≤ j by omega), lcs_nil_right, lcs_nil_right])).elim
                    | skip
                      refine CW.seq (fun K43 hK43 hE43 => ?_)
                      refine CW.region ?_
                      refine LR.v (Y.move rfl rfl) (Wd.u rfl) rfl rfl ?_
                      -- call selvage/selvageref12.run
                      refine LR.call rfl Try.call69 rfl (Wd.u rfl) rfl rfl (run_ct _ _ _ _ w0 H3 ho hbd.1 hbd.2) (fun v184 H184 r184 => ?_)
                      obtain ⟨ho2, hs184⟩ := r184
                      replace ho2 := ho2.imp (G' := fun c => H30.size ≤ c) (fun c _ h => h.elim id (fun h => Nat.le_trans (Nat.le_trans hz30 hz2) h))
                      have hm3 := hm2.trans hs184 (fun _ _ e => e) (fun c _ e => e)
                      refine LR.v (Y.assign rfl rfl) (Wd.u rfl) rfl rfl ?_
                      refine LR.nil ?_
                      refine hK43 _ _ ?_
                      refine CW.region ?_
                      refine LR.v (Y.move rfl rfl) (Wd.u rfl) rfl rfl ?_
                      refine LR.v (Y.addi rfl rfl rfl (by omega)) (Wd.u rfl) rfl rfl ?_
                      refine LR.v (Y.assign rfl rfl) (Wd.u rfl) rfl rfl ?_
                      refine LR.nil ?_
                      refine hK34 _ _ ?_
                      refine hK33 _ _ ?_
                      refine QN.sub (hN30 (i + 1, j, v184, done ++ [1]) _ ?_ ?_) ⟨rfl, rfl, (iv (by omega)), rfl, rfl, (iv (by omega)), (iv (by omega)), trivial⟩
                      · refine ⟨by omega, by omega, ?_, hm3, by rw [runs_snoc]; exact ho2⟩
                        rw [← hW, W_delete _ _ i j (by omega) (fun hj => by first | (exfalso; omega) | exact g130) (by have := c158; rw [hK _ _ (by omega) (by omega), hK _ _ (by omega) (by omega)] at this; omega), List.append_assoc]; rfl
                      · show a.length - (i + 1) + (b.length - j) < a.length - i + (b.length - j); omega
                  ·
                    first
                    | exact (c158 (by rw [hK _ _ (by omega) (by omega), hK _ _ (by omega) (by omega), List.drop_eq_nil_of_le (show b.length ≤ j by omega), lcs_nil_right, lcs_nil_right])).elim
                    | skip
                      refine CW.seq (fun K44 hK44 hE44 => ?_)
                      refine CW.region ?_
                      refine LR.v (Y.move rfl rfl) (Wd.u rfl) rfl rfl ?_
                      -- call selvage/selvageref12.run
                      refine LR.call rfl Try.call69 rfl (Wd.u rfl) rfl rfl (run_ct _ _ _ _ w0 H3 ho hbd.1 hbd.2) (fun v105 H105 r105 => ?_)
                      obtain ⟨ho2, hs105⟩ := r105
                      replace ho2 := ho2.imp (G' := fun c => H30.size ≤ c) (fun c _ h => h.elim id (fun h => Nat.le_trans (Nat.le_trans hz30 hz2) h))
                      have hm3 := hm2.trans hs105 (fun _ _ e => e) (fun c _ e => e)
                      refine LR.v (Y.assign rfl rfl) (Wd.u rfl) rfl rfl ?_
                      refine LR.nil ?_
                      refine hK44 _ _ ?_
                      refine CW.region ?_
                      refine LR.v (Y.move rfl rfl) (Wd.u rfl) rfl rfl ?_
                      refine LR.v (Y.addi rfl rfl rfl (by omega)) (Wd.u rfl) rfl rfl ?_
                      refine LR.v (Y.assign rfl rfl) (Wd.u rfl) rfl rfl ?_
                      refine LR.nil ?_
                      refine hK34 _ _ ?_
                      refine hK33 _ _ ?_
                      refine QN.sub (hN30 (i, j + 1, v105, done ++ [2]) _ ?_ ?_) ⟨rfl, rfl, (iv (by omega)), rfl, rfl, (iv (by omega)), (iv (by omega)), trivial⟩
                      · refine ⟨by omega, by omega, ?_, hm3, by rw [runs_snoc]; exact ho2⟩
                        rw [← hW, W_insert _ _ i j (by omega) (fun hi => by first | (exfalso; omega) | exact ⟨g130, fun e => c158 (by rw [hK _ _ (by omega) (by omega), hK _ _ (by omega) (by omega), e])⟩), List.append_assoc]; rfl
                      · show a.length - i + (b.length - (j + 1)) < a.length - i + (b.length - j); omega
              ·
                first
                | exfalso; omega
                | skip
                  refine LR.gs rfl rfl rfl rfl rfl rfl ?_
                  refine LR.gs rfl rfl rfl rfl rfl rfl ?_
                  refine LR.gs rfl rfl rfl rfl rfl rfl ?_
                  refine LR.gs rfl rfl rfl rfl rfl rfl ?_
                  refine LR.gs rfl rfl rfl rfl rfl rfl ?_
                  refine LR.gs rfl rfl rfl rfl rfl rfl ?_
                  refine LR.gs rfl rfl rfl rfl rfl rfl ?_
                  refine LR.gs rfl rfl rfl rfl rfl rfl ?_
                  refine LR.gs rfl rfl rfl rfl rfl rfl ?_
                  refine LR.gs rfl rfl rfl rfl rfl rfl ?_
                  refine LR.gs rfl rfl rfl rfl rfl rfl ?_
                  refine LR.gs rfl rfl rfl rfl rfl rfl ?_
                  refine LR.gs rfl rfl rfl rfl rfl rfl ?_
                  refine LR.gs rfl rfl rfl rfl rfl rfl ?_
                  refine LR.gs rfl rfl rfl rfl rfl rfl ?_
                  refine LR.gs rfl rfl rfl rfl rfl rfl ?_
                  refine LR.gs rfl rfl rfl rfl rfl rfl ?_
                  refine LR.gs rfl rfl rfl rfl rfl rfl ?_
                  refine LR.v (Y.pick_f rfl rfl rfl) (Wd.u rfl) rfl rfl ?_
                  refine LR.v (Y.assign rfl rfl) (Wd.u rfl) rfl rfl ?_
                  refine LR.nil ?_
                  refine hK42 _ _ ?_
                  refine CW.cond_f rfl ?_
                  refine CW.seq (fun K45 hK45 hE45 => ?_)
                  refine CW.region ?_
                  refine LR.v (Y.move rfl rfl) (Wd.u rfl) rfl rfl ?_
                  -- call selvage/selvageref12.run
                  refine LR.call rfl Try.call69 rfl (Wd.u rfl) rfl rfl (run_ct _ _ _ _ w0 H3 ho hbd.1 hbd.2) (fun v105 H105 r105 => ?_)
                  obtain ⟨ho2, hs105⟩ := r105
                  replace ho2 := ho2.imp (G' := fun c => H30.size ≤ c) (fun c _ h => h.elim id (fun h => Nat.le_trans (Nat.le_trans hz30 hz2) h))
                  have hm3 := hm2.trans hs105 (fun _ _ e => e) (fun c _ e => e)
                  refine LR.v (Y.assign rfl rfl) (Wd.u rfl) rfl rfl ?_
                  refine LR.nil ?_
                  refine hK45 _ _ ?_
                  refine CW.region ?_
                  refine LR.v (Y.move rfl rfl) (Wd.u rfl) rfl rfl ?_
                  refine LR.v (Y.addi rfl rfl rfl (by omega)) (Wd.u rfl) rfl rfl ?_
                  refine LR.v (Y.assign rfl rfl) (Wd.u rfl) rfl rfl ?_
                  refine LR.nil ?_
                  refine hK34 _ _ ?_
                  refine hK33 _ _ ?_
                  refine QN.sub (hN30 (i, j + 1, v105, done ++ [2]) _ ?_ ?_) ⟨rfl, rfl, (iv (by omega)), rfl, rfl, (iv (by omega)), (iv (by omega)), trivial⟩
                  · refine ⟨by omega, by omega, ?_, hm3, by rw [runs_snoc]; exact ho2⟩
                    rw [← hW, W_insert _ _ i j (by omega) (fun hi => by first | (exfalso; omega) | exact ⟨g130, fun e => c158 (by rw [hK _ _ (by omega) (by omega), hK _ _ (by omega) (by omega), e])⟩), List.append_assoc]; rfl
                  · show a.length - i + (b.length - (j + 1)) < a.length - i + (b.length - j); omega
          ·
            refine LR.gs rfl rfl rfl rfl rfl rfl ?_
            refine LR.gs rfl rfl rfl rfl rfl rfl ?_
            refine LR.gs rfl rfl rfl rfl rfl rfl ?_
            refine LR.gs rfl rfl rfl rfl rfl rfl ?_
            refine LR.v (Y.pick_f rfl rfl rfl) (Wd.u rfl) rfl rfl ?_
            refine LR.v (Y.move rfl rfl) (Wd.u rfl) rfl rfl ?_
            refine LR.gs rfl rfl rfl rfl rfl rfl ?_
            refine LR.gs rfl rfl rfl rfl rfl rfl ?_
            refine LR.gs rfl rfl rfl rfl rfl rfl ?_
            refine LR.gs rfl rfl rfl rfl rfl rfl ?_
            refine LR.gs rfl rfl rfl rfl rfl rfl ?_
            refine LR.gs rfl rfl rfl rfl rfl rfl ?_
            refine LR.gs rfl rfl rfl rfl rfl rfl ?_
            refine LR.gs rfl rfl rfl rfl rfl rfl ?_
            refine LR.gs rfl rfl rfl rfl rfl rfl ?_
            refine LR.v (Y.pick_f rfl rfl rfl) (Wd.u rfl) rfl rfl ?_
            refine LR.v (Y.move rfl rfl) (Wd.u rfl) rfl rfl ?_
            refine LR.gs rfl rfl rfl rfl rfl rfl ?_
            refine LR.gs rfl rfl rfl rfl rfl rfl ?_
            refine LR.gs rfl rfl rfl rfl rfl rfl ?_
            refine LR.gs rfl rfl rfl rfl rfl rfl ?_
            refine LR.gs rfl rfl rfl rfl rfl rfl ?_
            refine LR.gs rfl rfl rfl rfl rfl rfl ?_
            refine LR.gs rfl rfl rfl rfl rfl rfl ?_
            refine LR.gs rfl rfl rfl rfl rfl rfl ?_
            refine LR.gs rfl rfl rfl rfl rfl rfl ?_
            refine LR.gs rfl rfl rfl rfl rfl rfl ?_
            refine LR.gs rfl rfl rfl rfl rfl rfl ?_
            refine LR.gs rfl rfl rfl rfl rfl rfl ?_
            refine LR.gs rfl rfl rfl rfl rfl rfl ?_
            refine LR.gs rfl rfl rfl rfl rfl rfl ?_
            refine LR.gs rfl rfl rfl rfl rfl rfl ?_
            refine LR.gs rfl rfl rfl rfl rfl rfl ?_
            refine LR.gs rfl rfl rfl rfl rfl rfl ?_
            refine LR.gs rfl rfl rfl rfl rfl rfl ?_
            refine LR.gs rfl rfl rfl rfl rfl rfl ?_
            refine LR.gs rfl rfl rfl rfl rfl rfl ?_
            refine LR.v (Y.pick_f rfl rfl rfl) (Wd.u rfl) rfl rfl ?_
            refine LR.v (Y.assign rfl rfl) (Wd.u rfl) rfl rfl ?_
            refine LR.nil ?_
            refine hK35 _ _ ?_
            refine CW.cond_f rfl ?_
            refine CW.seq (fun K46 hK46 hE46 => ?_)
            refine CW.region_draw rfl (by kernel_rfl) ?_
            refine LR.v (Y.move rfl rfl) (Wd.u rfl) rfl rfl ?_
            refine LR.v (Y.move rfl rfl) (Wd.u rfl) rfl rfl ?_
            refine LR.v (Y.len ha2 rfl Try.runUnderlying32 rfl) (Wd.u rfl) rfl rfl ?_
            refine LR.v (Y.lss rfl rfl rfl) (Wd.u rfl) rfl rfl ?_
            refine LR.v (Y.move rfl rfl) (Wd.u rfl) rfl rfl ?_
            refine LR.splitp (d := 163) rfl (fun g163 => ?_) (fun g163 => ?_)
            ·
              first
              | exfalso; omega
              | skip
                have hb1 := hb1 (by omega) (by omega)
                refine LR.v (Y.move rfl rfl) (Wd.g rfl rfl rfl) rfl rfl ?_
                refine LR.v (Y.move rfl rfl) (Wd.g rfl rfl rfl) rfl rfl ?_
                refine LR.v (Y.move rfl rfl) (Wd.g rfl rfl rfl) rfl rfl ?_
                refine LR.v (Y.muli rfl rfl rfl (by omega)) (Wd.g rfl rfl rfl) rfl rfl ?_
                refine LR.v (Y.move rfl rfl) (Wd.g rfl rfl rfl) rfl rfl ?_
                refine LR.v (Y.addi rfl rfl rfl (by omega)) (Wd.g rfl rfl rfl) rfl rfl ?_
                refine LR.v (Y.ownAddr hk2 (i * (b.length + 1) + j) rfl Try.runUnderlying89 Try.sizeOf3 rfl rfl (idx _ _ _ _ _ _ (by omega) (by omega) (by omega)) (hKl i j (by omega) (by omega))) (Wd.g rfl rfl rfl) rfl rfl ?_
                refine LR.v (Y.load1 (hk2.pt (j := i * (b.length + 1) + j) (hKl i j (by omega) (by omega))) rfl Try.isAgg3 rfl) (Wd.g rfl rfl rfl) rfl rfl ?_
                refine LR.v (Y.move rfl rfl) (Wd.g rfl rfl rfl) rfl rfl ?_
                refine LR.v (Y.move rfl rfl) (Wd.g rfl rfl rfl) rfl rfl ?_
                refine LR.v (Y.addi rfl rfl rfl (by omega)) (Wd.g rfl rfl rfl) rfl rfl ?_
                refine LR.v (Y.move rfl rfl) (Wd.g rfl rfl rfl) rfl rfl ?_
                refine LR.v (Y.muli rfl rfl rfl (by omega)) (Wd.g rfl rfl rfl) rfl rfl ?_
                refine LR.v (Y.move rfl rfl) (Wd.g rfl rfl rfl) rfl rfl ?_
                refine LR.v (Y.addi rfl rfl rfl (by omega)) (Wd.g rfl rfl rfl) rfl rfl ?_
                refine LR.v (Y.ownAddr hk2 ((i + 1) * (b.length + 1) + j) rfl Try.runUnderlying89 Try.sizeOf3 rfl rfl (idx _ _ _ _ _ _ (by omega) (by omega) (by omega)) (hKl (i+1) j (by omega) (by omega))) (Wd.g rfl rfl rfl) rfl rfl ?_
                refine LR.v (Y.load1 (hk2.pt (j := (i + 1) * (b.length + 1) + j) (hKl (i+1) j (by omega) (by omega))) rfl Try.isAgg3 rfl) (Wd.g rfl rfl rfl) rfl rfl ?_
                refine LR.v (Y.eql rfl rfl rfl) (Wd.g rfl rfl rfl) rfl rfl ?_
                refine LR.v (Y.pick_t rfl rfl rfl) (Wd.u rfl) rfl rfl ?_
                refine LR.v (Y.assign rfl rfl) (Wd.u rfl) rfl rfl ?_
                refine LR.nil ?_
                refine hK46 _ _ ?_
                refine CW.condp rfl (fun c158 => ?_) (fun c158 => ?_)
                ·
                  first
                  | exact (c158 (by rw [hK _ _ (by omega) (by omega), hK _ _ (by omega) (by omega), List.drop_eq_nil_of_le (show b.length ≤ j by omega), lcs_nil_right, lcs_nil_right])).elim
                  | skip
                    refine CW.seq (fun K47 hK47 hE47 => ?_)
                    refine CW.region ?_
                    refine LR.v (Y.move rfl rfl) (Wd.u rfl) rfl rfl ?_
                    -- call selvage/selvageref12.run
                    refine LR.call rfl Try.call69 rfl (Wd.u rfl) rfl rfl (run_ct _ _ _ _ w0 H3 ho hbd.1 hbd.2) (fun v184 H184 r184 => ?_)
                    obtain ⟨ho2, hs184⟩ := r184
                    replace ho2 := ho2.imp (G' := fun c => H30.size ≤ c) (fun c _ h => h.elim id (fun h => Nat.le_trans (Nat.le_trans hz30 hz2) h))
                    have hm3 := hm2.trans hs184 (fun _ _ e => e) (fun c _ e => e)
                    refine LR.v (Y.assign rfl rfl) (Wd.u rfl) rfl rfl ?_
                    refine LR.nil ?_
                    refine hK47 _ _ ?_
                    refine CW.region ?_
                    refine LR.v (Y.move rfl rfl) (Wd.u rfl) rfl rfl ?_
                    refine LR.v (Y.addi rfl rfl rfl (by omega)) (Wd.u rfl) rfl rfl ?_
                    refine LR.v (Y.assign rfl rfl) (Wd.u rfl) rfl rfl ?_
                    refine LR.nil ?_
                    refine hK34 _ _ ?_
                    refine hK33 _ _ ?_
                    refine QN.sub (hN30 (i + 1, j, v184, done ++ [1]) _ ?_ ?_) ⟨rfl, rfl, (iv (by omega)), rfl, rfl, (iv (by omega)), (iv (by omega)), trivial⟩
                    · refine ⟨by omega, by omega, ?_, hm3, by rw [runs_snoc]; exact ho2⟩
                      rw [← hW, W_delete _ _ i j (by omega) (fun hj => by first | (exfalso; omega) | exact g130) (by have := c158; rw [hK _ _ (by omega) (by omega), hK _ _ (by omega) (by omega)] at this; omega), List.append_assoc]; rfl
                    · show a.length - (i + 1) + (b.length - j) < a.length - i + (b.length - j); omega
                ·
                  first
                  | exact (c158 (by rw [hK _ _ (by omega) (by omega), hK _ _ (by omega) (by omega), List.drop_eq_nil_of_le (show b.length ≤ j by omega), lcs_nil_right, lcs_nil_right])).elim
                  | skip
                    refine CW.seq (fun K48 hK48 hE48 => ?_)
                    refine CW.region ?_
                    refine LR.v (Y.move rfl rfl) (Wd.u rfl) rfl rfl ?_
                    -- call selvage/selvageref12.run
                    refine LR.call rfl Try.call69 rfl (Wd.u rfl) rfl rfl (run_ct _ _ _ _ w0 H3 ho hbd.1 hbd.2) (fun v105 H105 r105 => ?_)
                    obtain ⟨ho2, hs105⟩ := r105
                    replace ho2 := ho2.imp (G' := fun c => H30.size ≤ c) (fun c _ h => h.elim id (fun h => Nat.le_trans (Nat.le_trans hz30 hz2) h))
                    have hm3 := hm2.trans hs105 (fun _ _ e => e) (fun c _ e => e)
                    refine LR.v (Y.assign rfl rfl) (Wd.u rfl) rfl rfl ?_
                    refine LR.nil ?_
                    refine hK48 _ _ ?_
                    refine CW.region ?_
                    refine LR.v (Y.move rfl rfl) (Wd.u rfl) rfl rfl ?_
                    refine LR.v (Y.addi rfl rfl rfl (by omega)) (Wd.u rfl) rfl rfl ?_
                    refine LR.v (Y.assign rfl rfl) (Wd.u rfl) rfl rfl ?_
                    refine LR.nil ?_
                    refine hK34 _ _ ?_
                    refine hK33 _ _ ?_
                    refine QN.sub (hN30 (i, j + 1, v105, done ++ [2]) _ ?_ ?_) ⟨rfl, rfl, (iv (by omega)), rfl, rfl, (iv (by omega)), (iv (by omega)), trivial⟩
                    · refine ⟨by omega, by omega, ?_, hm3, by rw [runs_snoc]; exact ho2⟩
                      rw [← hW, W_insert _ _ i j (by omega) (fun hi => by first | (exfalso; omega) | exact ⟨g130, fun e => c158 (by rw [hK _ _ (by omega) (by omega), hK _ _ (by omega) (by omega), e])⟩), List.append_assoc]; rfl
                    · show a.length - i + (b.length - (j + 1)) < a.length - i + (b.length - j); omega
            ·
              first
              | exfalso; omega
              | skip
                refine LR.gs rfl rfl rfl rfl rfl rfl ?_
                refine LR.gs rfl rfl rfl rfl rfl rfl ?_
                refine LR.gs rfl rfl rfl rfl rfl rfl ?_
                refine LR.gs rfl rfl rfl rfl rfl rfl ?_
                refine LR.gs rfl rfl rfl rfl rfl rfl ?_
                refine LR.gs rfl rfl rfl rfl rfl rfl ?_
                refine LR.gs rfl rfl rfl rfl rfl rfl ?_
                refine LR.gs rfl rfl rfl rfl rfl rfl ?_
                refine LR.gs rfl rfl rfl rfl rfl rfl ?_
                refine LR.gs rfl rfl rfl rfl rfl rfl ?_
                refine LR.gs rfl rfl rfl rfl rfl rfl ?_
                refine LR.gs rfl rfl rfl rfl rfl rfl ?_
                refine LR.gs rfl rfl rfl rfl rfl rfl ?_
                refine LR.gs rfl rfl rfl rfl rfl rfl ?_
                refine LR.gs rfl rfl rfl rfl rfl rfl ?_
                refine LR.gs rfl rfl rfl rfl rfl rfl ?_
                refine LR.gs rfl rfl rfl rfl rfl rfl ?_
                refine LR.gs rfl rfl rfl rfl rfl rfl ?_
                refine LR.v (Y.pick_f rfl rfl rfl) (Wd.u rfl) rfl rfl ?_
                refine LR.v (Y.assign rfl rfl) (Wd.u rfl) rfl rfl ?_
                refine LR.nil ?_
                refine hK46 _ _ ?_
                refine CW.cond_f rfl ?_
                refine CW.seq (fun K49 hK49 hE49 => ?_)
                refine CW.region ?_
                refine LR.v (Y.move rfl rfl) (Wd.u rfl) rfl rfl ?_
                -- call selvage/selvageref12.run
                refine LR.call rfl Try.call69 rfl (Wd.u rfl) rfl rfl (run_ct _ _ _ _ w0 H3 ho hbd.1 hbd.2) (fun v105 H105 r105 => ?_)
                obtain ⟨ho2, hs105⟩ := r105
                replace ho2 := ho2.imp (G' := fun c => H30.size ≤ c) (fun c _ h => h.elim id (fun h => Nat.le_trans (Nat.le_trans hz30 hz2) h))
                have hm3 := hm2.trans hs105 (fun _ _ e => e) (fun c _ e => e)
                refine LR.v (Y.assign rfl rfl) (Wd.u rfl) rfl rfl ?_
                refine LR.nil ?_
                refine hK49 _ _ ?_
                refine CW.region ?_
                refine LR.v (Y.move rfl rfl) (Wd.u rfl) rfl rfl ?_
                refine LR.v (Y.addi rfl rfl rfl (by omega)) (Wd.u rfl) rfl rfl ?_
                refine LR.v (Y.assign rfl rfl) (Wd.u rfl) rfl rfl ?_
                refine LR.nil ?_
                refine hK34 _ _ ?_
                refine hK33 _ _ ?_
                refine QN.sub (hN30 (i, j + 1, v105, done ++ [2]) _ ?_ ?_) ⟨rfl, rfl, (iv (by omega)), rfl, rfl, (iv (by omega)), (iv (by omega)), trivial⟩
                · refine ⟨by omega, by omega, ?_, hm3, by rw [runs_snoc]; exact ho2⟩
                  rw [← hW, W_insert _ _ i j (by omega) (fun hi => by first | (exfalso; omega) | exact ⟨g130, fun e => c158 (by rw [hK _ _ (by omega) (by omega), hK _ _ (by omega) (by omega), e])⟩), List.append_assoc]; rfl
                · show a.length - i + (b.length - (j + 1)) < a.length - i + (b.length - j); omega
        ·
          refine LR.v (Y.move rfl rfl) (Wd.g rfl rfl rfl) rfl rfl ?_
          refine LR.v (Y.move rfl rfl) (Wd.g rfl rfl rfl) rfl rfl ?_
          refine LR.v (Y.len hb2 rfl Try.runUnderlying32 rfl) (Wd.g rfl rfl rfl) rfl rfl ?_
          refine LR.v (Y.lss rfl rfl rfl) (Wd.g rfl rfl rfl) rfl rfl ?_
          refine LR.v (Y.pick_f rfl rfl rfl) (Wd.u rfl) rfl rfl ?_
          refine LR.nil ?_
          refine hK32 _ _ ?_
          refine CW.condp rfl (fun c103 => ?_) (fun c103 => ?_)
          ·
            refine CW.skip ?_
            refine hK31 _ _ ?_
            refine CW.block (fun K50 hK50 hX50 hE50 => ?_)
            refine CW.block (fun K51 hK51 hX51 hE51 => ?_)
            refine CW.seq (fun K52 hK52 hE52 => ?_)
            refine CW.region_draw rfl (by kernel_rfl) ?_
            refine LR.v (Y.move rfl rfl) (Wd.u rfl) rfl rfl ?_
            refine LR.v (Y.move rfl rfl) (Wd.u rfl) rfl rfl ?_
            refine LR.v (Y.len ha2 rfl Try.runUnderlying32 rfl) (Wd.u rfl) rfl rfl ?_
            refine LR.v (Y.lss rfl rfl rfl) (Wd.u rfl) rfl rfl ?_
            refine LR.v (Y.move rfl rfl) (Wd.u rfl) rfl rfl ?_
            refine LR.splitp (d := 113) rfl (fun g113 => ?_) (fun g113 => ?_)
            ·
              refine LR.v (Y.move rfl rfl) (Wd.g rfl rfl rfl) rfl rfl ?_
              refine LR.v (Y.move rfl rfl) (Wd.g rfl rfl rfl) rfl rfl ?_
              refine LR.v (Y.len hb2 rfl Try.runUnderlying32 rfl) (Wd.g rfl rfl rfl) rfl rfl ?_
              refine LR.v (Y.lss rfl rfl rfl) (Wd.g rfl rfl rfl) rfl rfl ?_
              refine LR.v (Y.pick_t rfl rfl rfl) (Wd.u rfl) rfl rfl ?_
              refine LR.v (Y.move rfl rfl) (Wd.u rfl) rfl rfl ?_
              refine LR.splitp (d := 119) rfl (fun g119 => ?_) (fun g119 => ?_)
              ·
                refine LR.v (Y.move rfl rfl) (Wd.g rfl rfl rfl) rfl rfl ?_
                refine LR.v (Y.move rfl rfl) (Wd.g rfl rfl rfl) rfl rfl ?_
                refine LR.e (g := fun ad => .pointer (some ad)) (Y.indexAddr ha2 (i) rfl Try.runUnderlying32 Try.sizeOf9 rfl rfl (by first | rfl | omega) (by first | omega | (simp; omega) | (simp; done))) (Wd.g rfl rfl rfl) rfl rfl (fun ad122 pt122 => ?_)
                refine LR.v (Y.load1 pt122 rfl Try.isAgg9 rfl) (Wd.g rfl rfl rfl) rfl rfl ?_
                refine LR.v (Y.move rfl rfl) (Wd.g rfl rfl rfl) rfl rfl ?_
                refine LR.v (Y.move rfl rfl) (Wd.g rfl rfl rfl) rfl rfl ?_
                refine LR.e (g := fun ad => .pointer (some ad)) (Y.indexAddr hb2 (j) rfl Try.runUnderlying32 Try.sizeOf9 rfl rfl (by first | rfl | omega) (by first | omega | (simp; omega) | (simp; done))) (Wd.g rfl rfl rfl) rfl rfl (fun ad126 pt126 => ?_)
                refine LR.v (Y.load1 pt126 rfl Try.isAgg9 rfl) (Wd.g rfl rfl rfl) rfl rfl ?_
                refine LR.v (Y.seql rfl rfl rfl) (Wd.g rfl rfl rfl) rfl rfl ?_
                refine LR.v (Y.pick_t rfl rfl rfl) (Wd.u rfl) rfl rfl ?_
                refine LR.v (Y.move rfl rfl) (Wd.u rfl) rfl rfl ?_
                refine LR.splitp (d := 130) rfl (fun g130 => ?_) (fun g130 => ?_)
                ·
                  refine LR.v (Y.move rfl rfl) (Wd.g rfl rfl rfl) rfl rfl ?_
                  refine LR.v (Y.move rfl rfl) (Wd.g rfl rfl rfl) rfl rfl ?_
                  refine LR.v (Y.move rfl rfl) (Wd.g rfl rfl rfl) rfl rfl ?_
                  refine LR.v (Y.muli rfl rfl rfl (by omega)) (Wd.g rfl rfl rfl) rfl rfl ?_
                  refine LR.v (Y.move rfl rfl) (Wd.g rfl rfl rfl) rfl rfl ?_
                  refine LR.v (Y.addi rfl rfl rfl (by omega)) (Wd.g rfl rfl rfl) rfl rfl ?_
                  replace hb1 := hb1 (by omega) (by omega)
                  refine LR.v (Y.ownAddr hk2 (i * (b.length + 1) + j) rfl Try.runUnderlying89 Try.sizeOf3 rfl rfl (idx _ _ _ _ _ _ (by omega) (by omega) (by omega)) (hKl i j (by omega) (by omega))) (Wd.g rfl rfl rfl) rfl rfl ?_
                  refine LR.v (Y.load1 (hk2.pt (j := i * (b.length + 1) + j) (hKl i j (by omega) (by omega))) rfl Try.isAgg3 rfl) (Wd.g rfl rfl rfl) rfl rfl ?_
                  refine LR.v (Y.move rfl rfl) (Wd.g rfl rfl rfl) rfl rfl ?_
                  refine LR.v (Y.move rfl rfl) (Wd.g rfl rfl rfl) rfl rfl ?_
                  refine LR.v (Y.addi rfl rfl rfl (by omega)) (Wd.g rfl rfl rfl) rfl rfl ?_
                  refine LR.v (Y.move rfl rfl) (Wd.g rfl rfl rfl) rfl rfl ?_
                  refine LR.v (Y.muli rfl rfl rfl (by omega)) (Wd.g rfl rfl rfl) rfl rfl ?_
                  refine LR.v (Y.move rfl rfl) (Wd.g rfl rfl rfl) rfl rfl ?_
                  refine LR.v (Y.addi rfl rfl rfl (by omega)) (Wd.g rfl rfl rfl) rfl rfl ?_
                  refine LR.v (Y.addi rfl rfl rfl (by omega)) (Wd.g rfl rfl rfl) rfl rfl ?_
                  refine LR.v (Y.ownAddr hk2 ((i + 1) * (b.length + 1) + (j + 1)) rfl Try.runUnderlying89 Try.sizeOf3 rfl rfl (idx1 _ _ _ _ _ _ (by omega) (by omega) (by omega)) (hKl (i+1) (j+1) (by omega) (by omega))) (Wd.g rfl rfl rfl) rfl rfl ?_
                  refine LR.v (Y.load1 (hk2.pt (j := (i + 1) * (b.length + 1) + (j + 1)) (hKl (i+1) (j+1) (by omega) (by omega))) rfl Try.isAgg3 rfl) (Wd.g rfl rfl rfl) rfl rfl ?_
                  have hbd2 := lij_bd a b i j (by omega) (by omega)
                  have hk11 := hK (i + 1) (j + 1) (by omega) (by omega)
                  refine LR.v (Y.addi rfl rfl rfl (by omega)) (Wd.g rfl rfl rfl) rfl rfl ?_
                  refine LR.v ((Y.eql rfl rfl rfl).isT (by rw [hK _ _ (by omega) (by omega), hK _ _ (by omega) (by omega), lij_eq a b i j (by omega) (by omega) g130]; rfl)) (Wd.g rfl rfl rfl) rfl rfl ?_
                  refine LR.v (Y.pick_t rfl rfl rfl) (Wd.u rfl) rfl rfl ?_
                  refine LR.v (Y.assign rfl rfl) (Wd.u rfl) rfl rfl ?_
                  refine LR.nil ?_
                  refine hK52 _ _ ?_
                  refine CW.cond_t rfl ?_
                  refine CW.seq (fun K53 hK53 hE53 => ?_)
                  refine CW.region ?_
                  refine LR.v (Y.move rfl rfl) (Wd.u rfl) rfl rfl ?_
                  -- call selvage/selvageref12.run
                  refine LR.call rfl Try.call69 rfl (Wd.u rfl) rfl rfl (run_ct _ _ _ _ w0 H3 ho hbd.1 hbd.2) (fun v153 H153 r153 => ?_)
                  obtain ⟨ho2, hs153⟩ := r153
                  replace ho2 := ho2.imp (G' := fun c => H30.size ≤ c) (fun c _ h => h.elim id (fun h => Nat.le_trans (Nat.le_trans hz30 hz2) h))
                  have hm3 := hm2.trans hs153 (fun _ _ e => e) (fun c _ e => e)
                  refine LR.v (Y.assign rfl rfl) (Wd.u rfl) rfl rfl ?_
                  refine LR.nil ?_
                  refine hK53 _ _ ?_
                  refine CW.seq (fun K54 hK54 hE54 => ?_)
                  refine CW.region ?_
                  refine LR.v (Y.move rfl rfl) (Wd.u rfl) rfl rfl ?_
                  refine LR.v (Y.addi rfl rfl rfl (by omega)) (Wd.u rfl) rfl rfl ?_
                  refine LR.v (Y.assign rfl rfl) (Wd.u rfl) rfl rfl ?_
                  refine LR.nil ?_
                  refine hK54 _ _ ?_
                  refine CW.region ?_
                  refine LR.v (Y.move rfl rfl) (Wd.u rfl) rfl rfl ?_
                  refine LR.v (Y.addi rfl rfl rfl (by omega)) (Wd.u rfl) rfl rfl ?_
                  refine LR.v (Y.assign rfl rfl) (Wd.u rfl) rfl rfl ?_
                  refine LR.nil ?_
                  refine hK51 _ _ ?_
                  refine hK50 _ _ ?_
                  refine QN.sub (hN30 (i + 1, j + 1, v153, done ++ [0]) _ ?_ ?_) ⟨rfl, rfl, (iv (by omega)), rfl, rfl, (iv (by omega)), (iv (by omega)), trivial⟩
                  · refine ⟨by omega, by omega, ?_, hm3, by rw [runs_snoc]; exact ho2⟩
                    rw [← hW, W_keep _ _ i j (by omega) (by omega) g130, List.append_assoc]; rfl
                  · show a.length - (i + 1) + (b.length - (j + 1)) < a.length - i + (b.length - j); omega
                ·
                  refine LR.gs rfl rfl rfl rfl rfl rfl ?_
                  refine LR.gs rfl rfl rfl rfl rfl rfl ?_
                  refine LR.gs rfl rfl rfl rfl rfl rfl ?_
                  refine LR.gs rfl rfl rfl rfl rfl rfl ?_
                  refine LR.gs rfl rfl rfl rfl rfl rfl ?_
                  refine LR.gs rfl rfl rfl rfl rfl rfl ?_
                  refine LR.gs rfl rfl rfl rfl rfl rfl ?_
                  refine LR.gs rfl rfl rfl rfl rfl rfl ?_
                  refine LR.gs rfl rfl rfl rfl rfl rfl ?_
                  refine LR.gs rfl rfl rfl rfl rfl rfl ?_
                  refine LR.gs rfl rfl rfl rfl rfl rfl ?_
                  refine LR.gs rfl rfl rfl rfl rfl rfl ?_
                  refine LR.gs rfl rfl rfl rfl rfl rfl ?_
                  refine LR.gs rfl rfl rfl rfl rfl rfl ?_
                  refine LR.gs rfl rfl rfl rfl rfl rfl ?_
                  refine LR.gs rfl rfl rfl rfl rfl rfl ?_
                  refine LR.gs rfl rfl rfl rfl rfl rfl ?_
                  refine LR.gs rfl rfl rfl rfl rfl rfl ?_
                  refine LR.gs rfl rfl rfl rfl rfl rfl ?_
                  refine LR.gs rfl rfl rfl rfl rfl rfl ?_
                  refine LR.v (Y.pick_f rfl rfl rfl) (Wd.u rfl) rfl rfl ?_
                  refine LR.v (Y.assign rfl rfl) (Wd.u rfl) rfl rfl ?_
                  refine LR.nil ?_
                  refine hK52 _ _ ?_
                  refine CW.cond_f rfl ?_
                  refine CW.seq (fun K55 hK55 hE55 => ?_)
                  refine CW.region_draw rfl (by kernel_rfl) ?_
                  refine LR.v (Y.move rfl rfl) (Wd.u rfl) rfl rfl ?_
                  refine LR.v (Y.move rfl rfl) (Wd.u rfl) rfl rfl ?_
                  refine LR.v (Y.len ha2 rfl Try.runUnderlying32 rfl) (Wd.u rfl) rfl rfl ?_
                  refine LR.v (Y.lss rfl rfl rfl) (Wd.u rfl) rfl rfl ?_
                  refine LR.v (Y.move rfl rfl) (Wd.u rfl) rfl rfl ?_
                  refine LR.splitp (d := 163) rfl (fun g163 => ?_) (fun g163 => ?_)
                  ·
                    first
                    | exfalso; omega
                    | skip
                      have hb1 := hb1 (by omega) (by omega)
                      refine LR.v (Y.move rfl rfl) (Wd.g rfl rfl rfl) rfl rfl ?_
                      refine LR.v (Y.move rfl rfl) (Wd.g rfl rfl rfl) rfl rfl ?_
                      refine LR.v (Y.move rfl rfl) (Wd.g rfl rfl rfl) rfl rfl ?_
                      refine LR.v (Y.muli rfl rfl rfl (by omega)) (Wd.g rfl rfl rfl) rfl rfl ?_
                      refine LR.v (Y.move rfl rfl) (Wd.g rfl rfl rfl) rfl rfl ?_
                      refine LR.v (Y.addi rfl rfl rfl (by omega)) (Wd.g rfl rfl rfl) rfl rfl ?_
                      refine LR.v (Y.ownAddr hk2 (i * (b.length + 1) + j) rfl Try.runUnderlying89 Try.sizeOf3 rfl rfl (idx _ _ _ _ _ _ (by omega) (by omega) (by omega)) (hKl i j (by omega) (by omega))) (Wd.g rfl rfl rfl) rfl rfl ?_
                      refine LR.v (Y.load1 (hk2.pt (j := i * (b.length + 1) + j) (hKl i j (by omega) (by omega))) rfl Try.isAgg3 rfl) (Wd.g rfl rfl rfl) rfl rfl ?_
                      refine LR.v (Y.move rfl rfl) (Wd.g rfl rfl rfl) rfl rfl ?_
                      refine LR.v (Y.move rfl rfl) (Wd.g rfl rfl rfl) rfl rfl ?_
                      refine LR.v (Y.addi rfl rfl rfl (by omega)) (Wd.g rfl rfl rfl) rfl rfl ?_
                      refine LR.v (Y.move rfl rfl) (Wd.g rfl rfl rfl) rfl rfl ?_
                      refine LR.v (Y.muli rfl rfl rfl (by omega)) (Wd.g rfl rfl rfl) rfl rfl ?_
                      refine LR.v (Y.move rfl rfl) (Wd.g rfl rfl rfl) rfl rfl ?_
                      refine LR.v (Y.addi rfl rfl rfl (by omega)) (Wd.g rfl rfl rfl) rfl rfl ?_
                      refine LR.v (Y.ownAddr hk2 ((i + 1) * (b.length + 1) + j) rfl Try.runUnderlying89 Try.sizeOf3 rfl rfl (idx _ _ _ _ _ _ (by omega) (by omega) (by omega)) (hKl (i+1) j (by omega) (by omega))) (Wd.g rfl rfl rfl) rfl rfl ?_
                      refine LR.v (Y.load1 (hk2.pt (j := (i + 1) * (b.length + 1) + j) (hKl (i+1) j (by omega) (by omega))) rfl Try.isAgg3 rfl) (Wd.g rfl rfl rfl) rfl rfl ?_
                      refine LR.v (Y.eql rfl rfl rfl) (Wd.g rfl rfl rfl) rfl rfl ?_
                      refine LR.v (Y.pick_t rfl rfl rfl) (Wd.u rfl) rfl rfl ?_
                      refine LR.v (Y.assign rfl rfl) (Wd.u rfl) rfl rfl ?_
                      refine LR.nil ?_
                      refine hK55 _ _ ?_
                      refine CW.condp rfl (fun c158 => ?_) (fun c158 => ?_)
                      ·
                        first
                        | exact (c158 (by rw [hK _ _ (by omega) (by omega), hK _ _ (by omega) (by omega), List.drop_eq_nil_of_le (show b.length ≤ j by omega), lcs_nil_right, lcs_nil_right])).elim
                        | skip
                          refine CW.seq (fun K56 hK56 hE56 => ?_)
                          refine CW.region ?_
                          refine LR.v (Y.move rfl rfl) (Wd.u rfl) rfl rfl ?_
                          -- call selvage/selvageref12.run
                          refine LR.call rfl Try.call69 rfl (Wd.u rfl) rfl rfl (run_ct _ _ _ _ w0 H3 ho hbd.1 hbd.2) (fun v184 H184 r184 => ?_)
                          obtain ⟨ho2, hs184⟩ := r184
                          replace ho2 := ho2.imp (G' := fun c => H30.size ≤ c) (fun c _ h => h.elim id (fun h => Nat.le_trans (Nat.le_trans hz30 hz2) h))
                          have hm3 := hm2.trans hs184 (fun _ _ e => e) (fun c _ e => e)
                          refine LR.v (Y.assign rfl rfl) (Wd.u rfl) rfl rfl ?_
                          refine LR.nil ?_
                          refine hK56 _ _ ?_
                          refine CW.region ?_
                          refine LR.v (Y.move rfl rfl) (Wd.u rfl) rfl rfl ?_
                          refine LR.v (Y.addi rfl rfl rfl (by omega)) (Wd.u rfl) rfl rfl ?_
                          refine LR.v (Y.assign rfl rfl) (Wd.u rfl) rfl rfl ?_
                          refine LR.nil ?_
                          refine hK51 _ _ ?_
                          refine hK50 _ _ ?_
                          refine QN.sub (hN30 (i + 1, j, v184, done ++ [1]) _ ?_ ?_) ⟨rfl, rfl, (iv (by omega)), rfl, rfl, (iv (by omega)), (iv (by omega)), trivial⟩
                          · refine ⟨by omega, by omega, ?_, hm3, by rw [runs_snoc]; exact ho2⟩
                            rw [← hW, W_delete _ _ i j (by omega) (fun hj => by first | (exfalso; omega) | exact g130) (by have := c158; rw [hK _ _ (by omega) (by omega), hK _ _ (by omega) (by omega)] at this; omega), List.append_assoc]; rfl
                          · show a.length - (i + 1) + (b.length - j) < a.length - i + (b.length - j); omega
                      ·
                        first
                        | exact (c158 (by rw [hK _ _ (by omega) (by omega), hK _ _ (by omega) (by omega), List.drop_eq_nil_of_le (show b.length ≤ j by omega), lcs_nil_right, lcs_nil_right])).elim
                        | skip
                          refine CW.seq (fun K57 hK57 hE57 => ?_)
                          refine CW.region ?_
                          refine LR.v (Y.move rfl rfl) (Wd.u rfl) rfl rfl ?_
                          -- call selvage/selvageref12.run
                          refine LR.call rfl Try.call69 rfl (Wd.u rfl) rfl rfl (run_ct _ _ _ _ w0 H3 ho hbd.1 hbd.2) (fun v105 H105 r105 => ?_)
                          obtain ⟨ho2, hs105⟩ := r105
                          replace ho2 := ho2.imp (G' := fun c => H30.size ≤ c) (fun c _ h => h.elim id (fun h => Nat.le_trans (Nat.le_trans hz30 hz2) h))
                          have hm3 := hm2.trans hs105 (fun _ _ e => e) (fun c _ e => e)
                          refine LR.v (Y.assign rfl rfl) (Wd.u rfl) rfl rfl ?_
                          refine LR.nil ?_
                          refine hK57 _ _ ?_
                          refine CW.region ?_
                          refine LR.v (Y.move rfl rfl) (Wd.u rfl) rfl rfl ?_
                          refine LR.v (Y.addi rfl rfl rfl (by omega)) (Wd.u rfl) rfl rfl ?_
                          refine LR.v (Y.assign rfl rfl) (Wd.u rfl) rfl rfl ?_
                          refine LR.nil ?_
                          refine hK51 _ _ ?_
                          refine hK50 _ _ ?_
                          refine QN.sub (hN30 (i, j + 1, v105, done ++ [2]) _ ?_ ?_) ⟨rfl, rfl, (iv (by omega)), rfl, rfl, (iv (by omega)), (iv (by omega)), trivial⟩
                          · refine ⟨by omega, by omega, ?_, hm3, by rw [runs_snoc]; exact ho2⟩
                            rw [← hW, W_insert _ _ i j (by omega) (fun hi => by first | (exfalso; omega) | exact ⟨g130, fun e => c158 (by rw [hK _ _ (by omega) (by omega), hK _ _ (by omega) (by omega), e])⟩), List.append_assoc]; rfl
                          · show a.length - i + (b.length - (j + 1)) < a.length - i + (b.length - j); omega
                  ·
                    first
                    | exfalso; omega
                    | skip
                      refine LR.gs rfl rfl rfl rfl rfl rfl ?_
                      refine LR.gs rfl rfl rfl rfl rfl rfl ?_
                      refine LR.gs rfl rfl rfl rfl rfl rfl ?_
                      refine LR.gs rfl rfl rfl rfl rfl rfl ?_
                      refine LR.gs rfl rfl rfl rfl rfl rfl ?_
                      refine LR.gs rfl rfl rfl rfl rfl rfl ?_
                      refine LR.gs rfl rfl rfl rfl rfl rfl ?_
                      refine LR.gs rfl rfl rfl rfl rfl rfl ?_
                      refine LR.gs rfl rfl rfl rfl rfl rfl ?_
                      refine LR.gs rfl rfl rfl rfl rfl rfl ?_
                      refine LR.gs rfl rfl rfl rfl rfl rfl ?_
                      refine LR.gs rfl rfl rfl rfl rfl rfl ?_
                      refine LR.gs rfl rfl rfl rfl rfl rfl ?_
                      refine LR.gs rfl rfl rfl rfl rfl rfl ?_
                      refine LR.gs rfl rfl rfl rfl rfl rfl ?_
                      refine LR.gs rfl rfl rfl rfl rfl rfl ?_
                      refine LR.gs rfl rfl rfl rfl rfl rfl ?_
                      refine LR.gs rfl rfl rfl rfl rfl rfl ?_
                      refine LR.v (Y.pick_f rfl rfl rfl) (Wd.u rfl) rfl rfl ?_
                      refine LR.v (Y.assign rfl rfl) (Wd.u rfl) rfl rfl ?_
                      refine LR.nil ?_
                      refine hK55 _ _ ?_
                      refine CW.cond_f rfl ?_
                      refine CW.seq (fun K58 hK58 hE58 => ?_)
                      refine CW.region ?_
                      refine LR.v (Y.move rfl rfl) (Wd.u rfl) rfl rfl ?_
                      -- call selvage/selvageref12.run
                      refine LR.call rfl Try.call69 rfl (Wd.u rfl) rfl rfl (run_ct _ _ _ _ w0 H3 ho hbd.1 hbd.2) (fun v105 H105 r105 => ?_)
                      obtain ⟨ho2, hs105⟩ := r105
                      replace ho2 := ho2.imp (G' := fun c => H30.size ≤ c) (fun c _ h => h.elim id (fun h => Nat.le_trans (Nat.le_trans hz30 hz2) h))
                      have hm3 := hm2.trans hs105 (fun _ _ e => e) (fun c _ e => e)
                      refine LR.v (Y.assign rfl rfl) (Wd.u rfl) rfl rfl ?_
                      refine LR.nil ?_
                      refine hK58 _ _ ?_
                      refine CW.region ?_
                      refine LR.v (Y.move rfl rfl) (Wd.u rfl) rfl rfl ?_
                      refine LR.v (Y.addi rfl rfl rfl (by omega)) (Wd.u rfl) rfl rfl ?_
                      refine LR.v (Y.assign rfl rfl) (Wd.u rfl) rfl rfl ?_
                      refine LR.nil ?_
                      refine hK51 _ _ ?_
                      refine hK50 _ _ ?_
                      refine QN.sub (hN30 (i, j + 1, v105, done ++ [2]) _ ?_ ?_) ⟨rfl, rfl, (iv (by omega)), rfl, rfl, (iv (by omega)), (iv (by omega)), trivial⟩
                      · refine ⟨by omega, by omega, ?_, hm3, by rw [runs_snoc]; exact ho2⟩
                        rw [← hW, W_insert _ _ i j (by omega) (fun hi => by first | (exfalso; omega) | exact ⟨g130, fun e => c158 (by rw [hK _ _ (by omega) (by omega), hK _ _ (by omega) (by omega), e])⟩), List.append_assoc]; rfl
                      · show a.length - i + (b.length - (j + 1)) < a.length - i + (b.length - j); omega
              ·
                refine LR.gs rfl rfl rfl rfl rfl rfl ?_
                refine LR.gs rfl rfl rfl rfl rfl rfl ?_
                refine LR.gs rfl rfl rfl rfl rfl rfl ?_
                refine LR.gs rfl rfl rfl rfl rfl rfl ?_
                refine LR.gs rfl rfl rfl rfl rfl rfl ?_
                refine LR.gs rfl rfl rfl rfl rfl rfl ?_
                refine LR.gs rfl rfl rfl rfl rfl rfl ?_
                refine LR.gs rfl rfl rfl rfl rfl rfl ?_
                refine LR.gs rfl rfl rfl rfl rfl rfl ?_
                refine LR.v (Y.pick_f rfl rfl rfl) (Wd.u rfl) rfl rfl ?_
                refine LR.v (Y.move rfl rfl) (Wd.u rfl) rfl rfl ?_
                refine LR.gs rfl rfl rfl rfl rfl rfl ?_
                refine LR.gs rfl rfl rfl rfl rfl rfl ?_
                refine LR.gs rfl rfl rfl rfl rfl rfl ?_
                refine LR.gs rfl rfl rfl rfl rfl rfl ?_
                refine LR.gs rfl rfl rfl rfl rfl rfl ?_
                refine LR.gs rfl rfl rfl rfl rfl rfl ?_
                refine LR.gs rfl rfl rfl rfl rfl rfl ?_
                refine LR.gs rfl rfl rfl rfl rfl rfl ?_
                refine LR.gs rfl rfl rfl rfl rfl rfl ?_
                refine LR.gs rfl rfl rfl rfl rfl rfl ?_
                refine LR.gs rfl rfl rfl rfl rfl rfl ?_
                refine LR.gs rfl rfl rfl rfl rfl rfl ?_
                refine LR.gs rfl rfl rfl rfl rfl rfl ?_
                refine LR.gs rfl rfl rfl rfl rfl rfl ?_
                refine LR.gs rfl rfl rfl rfl rfl rfl ?_
                refine LR.gs rfl rfl rfl rfl rfl rfl ?_
                refine LR.gs rfl rfl rfl rfl rfl rfl ?_
                refine LR.gs rfl rfl rfl rfl rfl rfl ?_
                refine LR.gs rfl rfl rfl rfl rfl rfl ?_
                refine LR.gs rfl rfl rfl rfl rfl rfl ?_
                refine LR.v (Y.pick_f rfl rfl rfl) (Wd.u rfl) rfl rfl ?_
                refine LR.v (Y.assign rfl rfl) (Wd.u rfl) rfl rfl ?_
                refine LR.nil ?_
                refine hK52 _ _ ?_
                refine CW.cond_f rfl ?_
                refine CW.seq (fun K59 hK59 hE59 => ?_)
                refine CW.region_draw rfl (by kernel_rfl) ?_
                refine LR.v (Y.move rfl rfl) (Wd.u rfl) rfl rfl ?_
                refine LR.v (Y.move rfl rfl) (Wd.u rfl) rfl rfl ?_
                refine LR.v (Y.len ha2 rfl Try.runUnderlying32 rfl) (Wd.u rfl) rfl rfl ?_
                refine LR.v (Y.lss rfl rfl rfl) (Wd.u rfl) rfl rfl ?_
                refine LR.v (Y.move rfl rfl) (Wd.u rfl) rfl rfl ?_
                refine LR.splitp (d := 163) rfl (fun g163 => ?_) (fun g163 => ?_)
                ·
                  first
                  | exfalso; omega
                  | skip
                    have hb1 := hb1 (by omega) (by omega)
                    refine LR.v (Y.move rfl rfl) (Wd.g rfl rfl rfl) rfl rfl ?_
                    refine LR.v (Y.move rfl rfl) (Wd.g rfl rfl rfl) rfl rfl ?_
                    refine LR.v (Y.move rfl rfl) (Wd.g rfl rfl rfl) rfl rfl ?_
                    refine LR.v (Y.muli rfl rfl rfl (by omega)) (Wd.g rfl rfl rfl) rfl rfl ?_
                    refine LR.v (Y.move rfl rfl) (Wd.g rfl rfl rfl) rfl rfl ?_
                    refine LR.v (Y.addi rfl rfl rfl (by omega)) (Wd.g rfl rfl rfl) rfl rfl ?_
                    refine LR.v (Y.ownAddr hk2 (i * (b.length + 1) + j) rfl Try.runUnderlying89 Try.sizeOf3 rfl rfl (idx _ _ _ _ _ _ (by omega) (by omega) (by omega)) (hKl i j (by omega) (by omega))) (Wd.g rfl rfl rfl) rfl rfl ?_
                    refine LR.v (Y.load1 (hk2.pt (j := i * (b.length + 1) + j) (hKl i j (by omega) (by omega))) rfl Try.isAgg3 rfl) (Wd.g rfl rfl rfl) rfl rfl ?_
                    refine LR.v (Y.move rfl rfl) (Wd.g rfl rfl rfl) rfl rfl ?_
                    refine LR.v (Y.move rfl rfl) (Wd.g rfl rfl rfl) rfl rfl ?_
                    refine LR.v (Y.addi rfl rfl rfl (by omega)) (Wd.g rfl rfl rfl) rfl rfl ?_
                    refine LR.v (Y.move rfl rfl) (Wd.g rfl rfl rfl) rfl rfl ?_
                    refine LR.v (Y.muli rfl rfl rfl (by omega)) (Wd.g rfl rfl rfl) rfl rfl ?_
                    refine LR.v (Y.move rfl rfl) (Wd.g rfl rfl rfl) rfl rfl ?_
                    refine LR.v (Y.addi rfl rfl rfl (by omega)) (Wd.g rfl rfl rfl) rfl rfl ?_
                    refine LR.v (Y.ownAddr hk2 ((i + 1) * (b.length + 1) + j) rfl Try.runUnderlying89 Try.sizeOf3 rfl rfl (idx _ _ _ _ _ _ (by omega) (by omega) (by omega)) (hKl (i+1) j (by omega) (by omega))) (Wd.g rfl rfl rfl) rfl rfl ?_
                    refine LR.v (Y.load1 (hk2.pt (j := (i + 1) * (b.length + 1) + j) (hKl (i+1) j (by omega) (by omega))) rfl Try.isAgg3 rfl) (Wd.g rfl rfl rfl) rfl rfl ?_
                    refine LR.v (Y.eql rfl rfl rfl) (Wd.g rfl rfl rfl) rfl rfl ?_
                    refine LR.v (Y.pick_t rfl rfl rfl) (Wd.u rfl) rfl rfl ?_
                    refine LR.v (Y.assign rfl rfl) (Wd.u rfl) rfl rfl ?_
                    refine LR.nil ?_
                    refine hK59 _ _ ?_
                    refine CW.condp rfl (fun c158 => ?_) (fun c158 => ?_)
                    ·
                      first
                      | exact (c158 (by rw [hK _ _ (by omega) (by omega), hK _ _ (by omega) (by omega), List.drop_eq_nil_of_le (show b.length ≤ j by omega), lcs_nil_right, lcs_nil_right])).elim
                      | skip
                        refine CW.seq (fun K60 hK60 hE60 => ?_)
                        refine CW.region ?_
                        refine LR.v (Y.move rfl rfl) (Wd.u rfl) rfl rfl ?_
                        -- call selvage/selvageref12.run
                        refine LR.call rfl Try.call69 rfl (Wd.u rfl) rfl rfl (run_ct _ _ _ _ w0 H3 ho hbd.1 hbd.2) (fun v184 H184 r184 => ?_)
                        obtain ⟨ho2, hs184⟩ := r184
                        replace ho2 := ho2.imp (G' := fun c => H30.size ≤ c) (fun c _ h => h.elim id (fun h => Nat.le_trans (Nat.le_trans hz30 hz2) h))
                        have hm3 := hm2.trans hs184 (fun _ _ e => e) (fun c _ e => e)
                        refine LR.v (Y.assign rfl rfl) (Wd.u rfl) rfl rfl ?_
                        refine LR.nil ?_
                        refine hK60 _ _ ?_
                        refine CW.region ?_
                        refine LR.v (Y.move rfl rfl) (Wd.u rfl) rfl rfl ?_
                        refine LR.v (Y.addi rfl rfl rfl (by omega)) (Wd.u rfl) rfl rfl ?_
                        refine LR.v (Y.assign rfl rfl) (Wd.u rfl) rfl rfl ?_
                        refine LR.nil ?_
                        refine hK51 _ _ ?_
                        refine hK50 _ _ ?_
                        refine QN.sub (hN30 (i + 1, j, v184, done ++ [1]) _ ?_ ?_) ⟨rfl, rfl, (iv (by omega)), rfl, rfl, (iv (by omega)), (iv (by omega)), trivial⟩
                        · refine ⟨by omega, by omega, ?_, hm3, by rw [runs_snoc]; exact ho2⟩
                          rw [← hW, W_delete _ _ i j (by omega) (fun hj => by first | (exfalso; omega) | exact g130) (by have := c158; rw [hK _ _ (by omega) (by omega), hK _ _ (by omega) (by omega)] at this; omega), List.append_assoc]; rfl
                        · show a.length - (i + 1) + (b.length - j) < a.length - i + (b.length - j); omega
                    ·
                      first
                      | exact (c158 (by rw [hK _ _ (by omega) (by omega), hK _ _ (by omega) (by omega), List.drop_eq_nil_of_le (show b.length ≤ j by omega), lcs_nil_right, lcs_nil_right])).elim
                      | skip
                        refine CW.seq (fun K61 hK61 hE61 => ?_)
                        refine CW.region ?_
                        refine LR.v (Y.move rfl rfl) (Wd.u rfl) rfl rfl ?_
                        -- call selvage/selvageref12.run
                        refine LR.call rfl Try.call69 rfl (Wd.u rfl) rfl rfl (run_ct _ _ _ _ w0 H3 ho hbd.1 hbd.2) (fun v105 H105 r105 => ?_)
                        obtain ⟨ho2, hs105⟩ := r105
                        replace ho2 := ho2.imp (G' := fun c => H30.size ≤ c) (fun c _ h => h.elim id (fun h => Nat.le_trans (Nat.le_trans hz30 hz2) h))
                        have hm3 := hm2.trans hs105 (fun _ _ e => e) (fun c _ e => e)
                        refine LR.v (Y.assign rfl rfl) (Wd.u rfl) rfl rfl ?_
                        refine LR.nil ?_
                        refine hK61 _ _ ?_
                        refine CW.region ?_
                        refine LR.v (Y.move rfl rfl) (Wd.u rfl) rfl rfl ?_
                        refine LR.v (Y.addi rfl rfl rfl (by omega)) (Wd.u rfl) rfl rfl ?_
                        refine LR.v (Y.assign rfl rfl) (Wd.u rfl) rfl rfl ?_
                        refine LR.nil ?_
                        refine hK51 _ _ ?_
                        refine hK50 _ _ ?_
                        refine QN.sub (hN30 (i, j + 1, v105, done ++ [2]) _ ?_ ?_) ⟨rfl, rfl, (iv (by omega)), rfl, rfl, (iv (by omega)), (iv (by omega)), trivial⟩
                        · refine ⟨by omega, by omega, ?_, hm3, by rw [runs_snoc]; exact ho2⟩
                          rw [← hW, W_insert _ _ i j (by omega) (fun hi => by first | (exfalso; omega) | exact ⟨g130, fun e => c158 (by rw [hK _ _ (by omega) (by omega), hK _ _ (by omega) (by omega), e])⟩), List.append_assoc]; rfl
                        · show a.length - i + (b.length - (j + 1)) < a.length - i + (b.length - j); omega
                ·
                  first
                  | exfalso; omega
                  | skip
                    refine LR.gs rfl rfl rfl rfl rfl rfl ?_
                    refine LR.gs rfl rfl rfl rfl rfl rfl ?_
                    refine LR.gs rfl rfl rfl rfl rfl rfl ?_
                    refine LR.gs rfl rfl rfl rfl rfl rfl ?_
                    refine LR.gs rfl rfl rfl rfl rfl rfl ?_
                    refine LR.gs rfl rfl rfl rfl rfl rfl ?_
                    refine LR.gs rfl rfl rfl rfl rfl rfl ?_
                    refine LR.gs rfl rfl rfl rfl rfl rfl ?_
                    refine LR.gs rfl rfl rfl rfl rfl rfl ?_
                    refine LR.gs rfl rfl rfl rfl rfl rfl ?_
                    refine LR.gs rfl rfl rfl rfl rfl rfl ?_
                    refine LR.gs rfl rfl rfl rfl rfl rfl ?_
                    refine LR.gs rfl rfl rfl rfl rfl rfl ?_
                    refine LR.gs rfl rfl rfl rfl rfl rfl ?_
                    refine LR.gs rfl rfl rfl rfl rfl rfl ?_
                    refine LR.gs rfl rfl rfl rfl rfl rfl ?_
                    refine LR.gs rfl rfl rfl rfl rfl rfl ?_
                    refine LR.gs rfl rfl rfl rfl rfl rfl ?_
                    refine LR.v (Y.pick_f rfl rfl rfl) (Wd.u rfl) rfl rfl ?_
                    refine LR.v (Y.assign rfl rfl) (Wd.u rfl) rfl rfl ?_
                    refine LR.nil ?_
                    refine hK59 _ _ ?_
                    refine CW.cond_f rfl ?_
                    refine CW.seq (fun K62 hK62 hE62 => ?_)
                    refine CW.region ?_
                    refine LR.v (Y.move rfl rfl) (Wd.u rfl) rfl rfl ?_
                    -- call selvage/selvageref12.run
                    refine LR.call rfl Try.call69 rfl (Wd.u rfl) rfl rfl (run_ct _ _ _ _ w0 H3 ho hbd.1 hbd.2) (fun v105 H105 r105 => ?_)
                    obtain ⟨ho2, hs105⟩ := r105
                    replace ho2 := ho2.imp (G' := fun c => H30.size ≤ c) (fun c _ h => h.elim id (fun h => Nat.le_trans (Nat.le_trans hz30 hz2) h))
                    have hm3 := hm2.trans hs105 (fun _ _ e => e) (fun c _ e => e)
                    refine LR.v (Y.assign rfl rfl) (Wd.u rfl) rfl rfl ?_
                    refine LR.nil ?_
                    refine hK62 _ _ ?_
                    refine CW.region ?_
                    refine LR.v (Y.move rfl rfl) (Wd.u rfl) rfl rfl ?_
                    refine LR.v (Y.addi rfl rfl rfl (by omega)) (Wd.u rfl) rfl rfl ?_
                    refine LR.v (Y.assign rfl rfl) (Wd.u rfl) rfl rfl ?_
                    refine LR.nil ?_
                    refine hK51 _ _ ?_
                    refine hK50 _ _ ?_
                    refine QN.sub (hN30 (i, j + 1, v105, done ++ [2]) _ ?_ ?_) ⟨rfl, rfl, (iv (by omega)), rfl, rfl, (iv (by omega)), (iv (by omega)), trivial⟩
                    · refine ⟨by omega, by omega, ?_, hm3, by rw [runs_snoc]; exact ho2⟩
                      rw [← hW, W_insert _ _ i j (by omega) (fun hi => by first | (exfalso; omega) | exact ⟨g130, fun e => c158 (by rw [hK _ _ (by omega) (by omega), hK _ _ (by omega) (by omega), e])⟩), List.append_assoc]; rfl
                    · show a.length - i + (b.length - (j + 1)) < a.length - i + (b.length - j); omega
            ·
              refine LR.gs rfl rfl rfl rfl rfl rfl ?_
              refine LR.gs rfl rfl rfl rfl rfl rfl ?_
              refine LR.gs rfl rfl rfl rfl rfl rfl ?_
              refine LR.gs rfl rfl rfl rfl rfl rfl ?_
              refine LR.v (Y.pick_f rfl rfl rfl) (Wd.u rfl) rfl rfl ?_
              refine LR.v (Y.move rfl rfl) (Wd.u rfl) rfl rfl ?_
              refine LR.gs rfl rfl rfl rfl rfl rfl ?_
              refine LR.gs rfl rfl rfl rfl rfl rfl ?_
              refine LR.gs rfl rfl rfl rfl rfl rfl ?_
              refine LR.gs rfl rfl rfl rfl rfl rfl ?_
              refine LR.gs rfl rfl rfl rfl rfl rfl ?_
              refine LR.gs rfl rfl rfl rfl rfl rfl ?_
              refine LR.gs rfl rfl rfl rfl rfl rfl ?_
              refine LR.gs rfl rfl rfl rfl rfl rfl ?_
              refine LR.gs rfl rfl rfl rfl rfl rfl ?_
              refine LR.v (Y.pick_f rfl rfl rfl) (Wd.u rfl) rfl rfl ?_
              refine LR.v (Y.move rfl rfl) (Wd.u rfl) rfl rfl ?_
              refine LR.gs rfl rfl rfl rfl rfl rfl ?_
              refine LR.gs rfl rfl rfl rfl rfl rfl ?_
              refine LR.gs rfl rfl rfl rfl rfl rfl ?_
              refine LR.gs rfl rfl rfl rfl rfl rfl ?_
              refine LR.gs rfl rfl rfl rfl rfl rfl ?_
              refine LR.gs rfl rfl rfl rfl rfl rfl ?_
              refine LR.gs rfl rfl rfl rfl rfl rfl ?_
              refine LR.gs rfl rfl rfl rfl rfl rfl ?_
              refine LR.gs rfl rfl rfl rfl rfl rfl ?_
              refine LR.gs rfl rfl rfl rfl rfl rfl ?_
              refine LR.gs rfl rfl rfl rfl rfl rfl ?_
              refine LR.gs rfl rfl rfl rfl rfl rfl ?_
              refine LR.gs rfl rfl rfl rfl rfl rfl ?_
              refine LR.gs rfl rfl rfl rfl rfl rfl ?_
              refine LR.gs rfl rfl rfl rfl rfl rfl ?_
              refine LR.gs rfl rfl rfl rfl rfl rfl ?_
              refine LR.gs rfl rfl rfl rfl rfl rfl ?_
              refine LR.gs rfl rfl rfl rfl rfl rfl ?_
              refine LR.gs rfl rfl rfl rfl rfl rfl ?_
              refine LR.gs rfl rfl rfl rfl rfl rfl ?_
              refine LR.v (Y.pick_f rfl rfl rfl) (Wd.u rfl) rfl rfl ?_
              refine LR.v (Y.assign rfl rfl) (Wd.u rfl) rfl rfl ?_
              refine LR.nil ?_
              refine hK52 _ _ ?_
              refine CW.cond_f rfl ?_
              refine CW.seq (fun K63 hK63 hE63 => ?_)
              refine CW.region_draw rfl (by kernel_rfl) ?_
              refine LR.v (Y.move rfl rfl) (Wd.u rfl) rfl rfl ?_
              refine LR.v (Y.move rfl rfl) (Wd.u rfl) rfl rfl ?_
              refine LR.v (Y.len ha2 rfl Try.runUnderlying32 rfl) (Wd.u rfl) rfl rfl ?_
              refine LR.v (Y.lss rfl rfl rfl) (Wd.u rfl) rfl rfl ?_
              refine LR.v (Y.move rfl rfl) (Wd.u rfl) rfl rfl ?_
              refine LR.splitp (d := 163) rfl (fun g163 => ?_) (fun g163 => ?_)
              ·
                first
                | exfalso; omega
                | skip
                  have hb1 := hb1 (by omega) (by omega)
                  refine LR.v (Y.move rfl rfl) (Wd.g rfl rfl rfl) rfl rfl ?_
                  refine LR.v (Y.move rfl rfl) (Wd.g rfl rfl rfl) rfl rfl ?_
                  refine LR.v (Y.move rfl rfl) (Wd.g rfl rfl rfl) rfl rfl ?_
                  refine LR.v (Y.muli rfl rfl rfl (by omega)) (Wd.g rfl rfl rfl) rfl rfl ?_
                  refine LR.v (Y.move rfl rfl) (Wd.g rfl rfl rfl) rfl rfl ?_
                  refine LR.v (Y.addi rfl rfl rfl (by omega)) (Wd.g rfl rfl rfl) rfl rfl ?_
                  refine LR.v (Y.ownAddr hk2 (i * (b.length + 1) + j) rfl Try.runUnderlying89 Try.sizeOf3 rfl rfl (idx _ _ _ _ _ _ (by omega) (by omega) (by omega)) (hKl i j (by omega) (by omega))) (Wd.g rfl rfl rfl) rfl rfl ?_
                  refine LR.v (Y.load1 (hk2.pt (j := i * (b.length + 1) + j) (hKl i j (by omega) (by omega))) rfl Try.isAgg3 rfl) (Wd.g rfl rfl rfl) rfl rfl ?_
                  refine LR.v (Y.move rfl rfl) (Wd.g rfl rfl rfl) rfl rfl ?_
                  refine LR.v (Y.move rfl rfl) (Wd.g rfl rfl rfl) rfl rfl ?_
                  refine LR.v (Y.addi rfl rfl rfl (by omega)) (Wd.g rfl rfl rfl) rfl rfl ?_
                  refine LR.v (Y.move rfl rfl) (Wd.g rfl rfl rfl) rfl rfl ?_
                  refine LR.v (Y.muli rfl rfl rfl (by omega)) (Wd.g rfl rfl rfl) rfl rfl ?_
                  refine LR.v (Y.move rfl rfl) (Wd.g rfl rfl rfl) rfl rfl ?_
                  refine LR.v (Y.addi rfl rfl rfl (by omega)) (Wd.g rfl rfl rfl) rfl rfl ?_
                  refine LR.v (Y.ownAddr hk2 ((i + 1) * (b.length + 1) + j) rfl Try.runUnderlying89 Try.sizeOf3 rfl rfl (idx _ _ _ _ _ _ (by omega) (by omega) (by omega)) (hKl (i+1) j (by omega) (by omega))) (Wd.g rfl rfl rfl) rfl rfl ?_
                  refine LR.v (Y.load1 (hk2.pt (j := (i + 1) * (b.length + 1) + j) (hKl (i+1) j (by omega) (by omega))) rfl Try.isAgg3 rfl) (Wd.g rfl rfl rfl) rfl rfl ?_
                  refine LR.v (Y.eql rfl rfl rfl) (Wd.g rfl rfl rfl) rfl rfl ?_
                  refine LR.v (Y.pick_t rfl rfl rfl) (Wd.u rfl) rfl rfl ?_
                  refine LR.v (Y.assign rfl rfl) (Wd.u rfl) rfl rfl ?_
                  refine LR.nil ?_
                  refine hK63 _ _ ?_
                  refine CW.condp rfl (fun c158 => ?_) (fun c158 => ?_)
                  ·
                    first
                    | exact (c158 (by rw [hK _ _ (by omega) (by omega), hK _ _ (by omega) (by omega), List.drop_eq_nil_of_le (show b.length ≤ j by omega), lcs_nil_right, lcs_nil_right])).elim
                    | skip
                      refine CW.seq (fun K64 hK64 hE64 => ?_)
                      refine CW.region ?_
                      refine LR.v (Y.move rfl rfl) (Wd.u rfl) rfl rfl ?_
                      -- call selvage/selvageref12.run
                      refine LR.call rfl Try.call69 rfl (Wd.u rfl) rfl rfl (run_ct _ _ _ _ w0 H3 ho hbd.1 hbd.2) (fun v184 H184 r184 => ?_)
                      obtain ⟨ho2, hs184⟩ := r184
                      replace ho2 := ho2.imp (G' := fun c => H30.size ≤ c) (fun c _ h => h.elim id (fun h => Nat.le_trans (Nat.le_trans hz30 hz2) h))
                      have hm3 := hm2.trans hs184 (fun _ _ e => e) (fun c _ e => e)
                      refine LR.v (Y.assign rfl rfl) (Wd.u rfl) rfl rfl ?_
                      refine LR.nil ?_
                      refine hK64 _ _ ?_
                      refine CW.region ?_
                      refine LR.v (Y.move rfl rfl) (Wd.u rfl) rfl rfl ?_
                      refine LR.v (Y.addi rfl rfl rfl (by omega)) (Wd.u rfl) rfl rfl ?_
                      refine LR.v (Y.assign rfl rfl) (Wd.u rfl) rfl rfl ?_
                      refine LR.nil ?_
                      refine hK51 _ _ ?_
                      refine hK50 _ _ ?_
                      refine QN.sub (hN30 (i + 1, j, v184, done ++ [1]) _ ?_ ?_) ⟨rfl, rfl, (iv (by omega)), rfl, rfl, (iv (by omega)), (iv (by omega)), trivial⟩
                      · refine ⟨by omega, by omega, ?_, hm3, by rw [runs_snoc]; exact ho2⟩
                        rw [← hW, W_delete _ _ i j (by omega) (fun hj => by first | (exfalso; omega) | exact g130) (by have := c158; rw [hK _ _ (by omega) (by omega), hK _ _ (by omega) (by omega)] at this; omega), List.append_assoc]; rfl
                      · show a.length - (i + 1) + (b.length - j) < a.length - i + (b.length - j); omega
                  ·
                    first
                    | exact (c158 (by rw [hK _ _ (by omega) (by omega), hK _ _ (by omega) (by omega), List.drop_eq_nil_of_le (show b.length ≤ j by omega), lcs_nil_right, lcs_nil_right])).elim
                    | skip
                      refine CW.seq (fun K65 hK65 hE65 => ?_)
                      refine CW.region ?_
                      refine LR.v (Y.move rfl rfl) (Wd.u rfl) rfl rfl ?_
                      -- call selvage/selvageref12.run
                      refine LR.call rfl Try.call69 rfl (Wd.u rfl) rfl rfl (run_ct _ _ _ _ w0 H3 ho hbd.1 hbd.2) (fun v105 H105 r105 => ?_)
                      obtain ⟨ho2, hs105⟩ := r105
                      replace ho2 := ho2.imp (G' := fun c => H30.size ≤ c) (fun c _ h => h.elim id (fun h => Nat.le_trans (Nat.le_trans hz30 hz2) h))
                      have hm3 := hm2.trans hs105 (fun _ _ e => e) (fun c _ e => e)
                      refine LR.v (Y.assign rfl rfl) (Wd.u rfl) rfl rfl ?_
                      refine LR.nil ?_
                      refine hK65 _ _ ?_
                      refine CW.region ?_
                      refine LR.v (Y.move rfl rfl) (Wd.u rfl) rfl rfl ?_
                      refine LR.v (Y.addi rfl rfl rfl (by omega)) (Wd.u rfl) rfl rfl ?_
                      refine LR.v (Y.assign rfl rfl) (Wd.u rfl) rfl rfl ?_
                      refine LR.nil ?_
                      refine hK51 _ _ ?_
                      refine hK50 _ _ ?_
                      refine QN.sub (hN30 (i, j + 1, v105, done ++ [2]) _ ?_ ?_) ⟨rfl, rfl, (iv (by omega)), rfl, rfl, (iv (by omega)), (iv (by omega)), trivial⟩
                      · refine ⟨by omega, by omega, ?_, hm3, by rw [runs_snoc]; exact ho2⟩
                        rw [← hW, W_insert _ _ i j (by omega) (fun hi => by first | (exfalso; omega) | exact ⟨g130, fun e => c158 (by rw [hK _ _ (by omega) (by omega), hK _ _ (by omega) (by omega), e])⟩), List.append_assoc]; rfl
                      · show a.length - i + (b.length - (j + 1)) < a.length - i + (b.length - j); omega
              ·
                first
                | exfalso; omega
                | skip
                  refine LR.gs rfl rfl rfl rfl rfl rfl ?_
                  refine LR.gs rfl rfl rfl rfl rfl rfl ?_
                  refine LR.gs rfl rfl rfl rfl rfl rfl ?_
                  refine LR.gs rfl rfl rfl rfl rfl rfl ?_
                  refine LR.gs rfl rfl rfl rfl rfl rfl ?_
                  refine LR.gs rfl rfl rfl rfl rfl rfl ?_
                  refine LR.gs rfl rfl rfl rfl rfl rfl ?_
                  refine LR.gs rfl rfl rfl rfl rfl rfl ?_
                  refine LR.gs rfl rfl rfl rfl rfl rfl ?_
                  refine LR.gs rfl rfl rfl rfl rfl rfl ?_
                  refine LR.gs rfl rfl rfl rfl rfl rfl ?_
                  refine LR.gs rfl rfl rfl rfl rfl rfl ?_
                  refine LR.gs rfl rfl rfl rfl rfl rfl ?_
                  refine LR.gs rfl rfl rfl rfl rfl rfl ?_
                  refine LR.gs rfl rfl rfl rfl rfl rfl ?_
                  refine LR.gs rfl rfl rfl rfl rfl rfl ?_
                  refine LR.gs rfl rfl rfl rfl rfl rfl ?_
                  refine LR.gs rfl rfl rfl rfl rfl rfl ?_
                  refine LR.v (Y.pick_f rfl rfl rfl) (Wd.u rfl) rfl rfl ?_
                  refine LR.v (Y.assign rfl rfl) (Wd.u rfl) rfl rfl ?_
                  refine LR.nil ?_
                  refine hK63 _ _ ?_
                  refine CW.cond_f rfl ?_
                  refine CW.seq (fun K66 hK66 hE66 => ?_)
                  refine CW.region ?_
                  refine LR.v (Y.move rfl rfl) (Wd.u rfl) rfl rfl ?_
                  -- call selvage/selvageref12.run
                  refine LR.call rfl Try.call69 rfl (Wd.u rfl) rfl rfl (run_ct _ _ _ _ w0 H3 ho hbd.1 hbd.2) (fun v105 H105 r105 => ?_)
                  obtain ⟨ho2, hs105⟩ := r105
                  replace ho2 := ho2.imp (G' := fun c => H30.size ≤ c) (fun c _ h => h.elim id (fun h => Nat.le_trans (Nat.le_trans hz30 hz2) h))
                  have hm3 := hm2.trans hs105 (fun _ _ e => e) (fun c _ e => e)
                  refine LR.v (Y.assign rfl rfl) (Wd.u rfl) rfl rfl ?_
                  refine LR.nil ?_
                  refine hK66 _ _ ?_
                  refine CW.region ?_
                  refine LR.v (Y.move rfl rfl) (Wd.u rfl) rfl rfl ?_
                  refine LR.v (Y.addi rfl rfl rfl (by omega)) (Wd.u rfl) rfl rfl ?_
                  refine LR.v (Y.assign rfl rfl) (Wd.u rfl) rfl rfl ?_
                  refine LR.nil ?_
                  refine hK51 _ _ ?_
                  refine hK50 _ _ ?_
                  refine QN.sub (hN30 (i, j + 1, v105, done ++ [2]) _ ?_ ?_) ⟨rfl, rfl, (iv (by omega)), rfl, rfl, (iv (by omega)), (iv (by omega)), trivial⟩
                  · refine ⟨by omega, by omega, ?_, hm3, by rw [runs_snoc]; exact ho2⟩
                    rw [← hW, W_insert _ _ i j (by omega) (fun hi => by first | (exfalso; omega) | exact ⟨g130, fun e => c158 (by rw [hK _ _ (by omega) (by omega), hK _ _ (by omega) (by omega), e])⟩), List.append_assoc]; rfl
                  · show a.length - i + (b.length - (j + 1)) < a.length - i + (b.length - j); omega
          ·
            refine CW.exit (hE31 (.exit 4) nofun _ _ (hE30 (.exit 4) nofun _ _ (hX29 _ _ ?_)))
            refine hK28 _ _ ?_
            refine CW.seq (fun K67 hK67 hE67 => ?_)
            refine CW.region ?_
            refine LR.v (Y.move rfl rfl) (Wd.u rfl) rfl rfl ?_
            refine LR.v (Y.assign rfl rfl) (Wd.u rfl) rfl rfl ?_
            refine LR.v (Y.assign rfl rfl) (Wd.u rfl) rfl rfl ?_
            refine LR.nil ?_
            refine hK67 _ _ ?_
            refine CW.ret (hret .ret (.inr rfl) _ _ _ (res2 rfl rfl rfl) ?_)
            refine ⟨_, by rw [if_neg (by omega)], ?_, hs.trans hm2 (fun _ _ e => e) (fun c hb e => (by omega : False))⟩
            rw [if_neg (by omega)]
            have hd : done = W a b := by rw [← hW, List.drop_eq_nil_of_le (show a.length ≤ i by omega), List.drop_eq_nil_of_le (show b.length ≤ j by omega), W_nil, List.append_nil]
            unfold script
            rw [← hd]
            exact ho.imp (fun c _ h => by omega)

end Go.Proofs.Ytegfnfhdgbcjbaa.LinD
