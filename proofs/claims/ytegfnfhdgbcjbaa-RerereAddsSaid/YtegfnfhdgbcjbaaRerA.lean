/-
  The key of a text with marks.
-/
import Derived.Test.YtegfnfhdgbcjbaaMerN
import Derived.Test.YtegfnfhdgbcjbaaSumL
import Derived.Test.YtegfnfhdgbcjbaaSumG
import Derived.Test.YtegfnfhdgbcjbaaSumF
import Derived.Test.YtegfnfhdgbcjbaaNum
import Derived.Test.YtegfnfhdgbcjbaaDelA
namespace Go.Proofs.Ytegfnfhdgbcjbaa.RerA
open Go.Proofs.Ytegfnfhdgbcjbaa.E Go.RowKit Go.Proofs.Ytegfnfhdgbcjbaa.LinM Go.Proofs.Ytegfnfhdgbcjbaa.LinC Go.Proofs.Ytegfnfhdgbcjbaa.LinL Go.Proofs.Ytegfnfhdgbcjbaa.LinN Go.Proofs.Ytegfnfhdgbcjbaa.MerA Go.Proofs.Ytegfnfhdgbcjbaa.MerB Go.Proofs.Ytegfnfhdgbcjbaa.MerC Go.Proofs.Ytegfnfhdgbcjbaa.MerD Go.Proofs.Ytegfnfhdgbcjbaa.MerE Go.Proofs.Ytegfnfhdgbcjbaa.MerF Go.Proofs.Ytegfnfhdgbcjbaa.MerH Go.Proofs.Ytegfnfhdgbcjbaa.MerL Go.Proofs.Ytegfnfhdgbcjbaa.MerM Go.Proofs.Ytegfnfhdgbcjbaa.MerN Go.Proofs.Ytegfnfhdgbcjbaa.SumA Go.Proofs.Ytegfnfhdgbcjbaa.SumB Go.Proofs.Ytegfnfhdgbcjbaa.SumC Go.Proofs.Ytegfnfhdgbcjbaa.SumD Go.Proofs.Ytegfnfhdgbcjbaa.SumE Go.Proofs.Ytegfnfhdgbcjbaa.SumF Go.Proofs.Ytegfnfhdgbcjbaa.SumG Go.Proofs.Ytegfnfhdgbcjbaa.SumK Go.Proofs.Ytegfnfhdgbcjbaa.SumL Go.Proofs.Ytegfnfhdgbcjbaa.DelA
set_option maxRecDepth 20000
set_option linter.unusedVariables false
set_option linter.unusedSimpArgs false
set_option linter.unusedSectionVars false
set_option maxRecDepth 100000 in
theorem inf22 : Inf Try.prog 22 5 1 1 := ⟨Try.underlying22, _, _, rfl, rfl, rfl, rfl, rfl⟩

/-- the bytes of lines behind their length -/
def rowL (l : LL) : List UInt8 := be32 l.flatten.length ++ l.flatten
def swapB (o t : LL) : Bool := Op.bytesLess t.flatten o.flatten
/-- what a chunk gives to the key -/
def key1 (c : Cn) : List UInt8 := if c.1 = 0 then [0] ++ rowL c.2.1 else if swapB c.2.2.1 c.2.2.2 = true then [1] ++ rowL c.2.1 ++ rowL c.2.2.2 ++ rowL c.2.2.1 else [1] ++ rowL c.2.1 ++ rowL c.2.2.1 ++ rowL c.2.2.2
def keyB (cs : List Cn) : List UInt8 := (cs.map key1).flatten
def someC (cs : List Cn) : Bool := cs.any (fun c => decide (c.1 ≠ 0))
/-- the key, and the code -/
def keyC (p : List Cn × Int) : List UInt8 × Int := if p.2 ≠ 0 then (Z32, p.2) else if someC p.1 = true then (sumOf (keyB p.1), 0) else (Z32, 2)
def keyL (b : List UInt8) : List UInt8 × Int := keyC (parseL b)
theorem cmp_pos : ∀ a b : List UInt8, (0 < Lib.compareBytes a b) ↔ Op.bytesLess b a = true := by
  intro a
  induction a with
  | nil => intro b; cases b <;> simp [Lib.compareBytes, Op.bytesLess]
  | cons x a ih =>
    intro b
    cases b with
    | nil => simp [Lib.compareBytes, Op.bytesLess]
    | cons y b =>
      have h := ih b
      rw [← cmp_less] at h ⊢
      simp only [Lib.compareBytes]
      by_cases h1 : x < y
      · have h2 : ¬ y < x := by rw [UInt8.lt_iff_toNat_lt] at *; omega
        simp [h1, h2]
      · by_cases h2 : y < x
        · simp [h1, h2]
        · simp only [h1, h2, if_false]; exact h
theorem rowL_len (l : LL) : (rowL l).length = 4 + l.flatten.length := by simp [rowL, be32_len]
theorem key_snoc (cs : List Cn) (j : Nat) (h : j < cs.length) : keyB (cs.take (j + 1)) = keyB (cs.take j) ++ key1 cs[j] := by
  unfold keyB
  rw [List.take_succ_eq_append_getElem h, List.map_append, List.flatten_append]; simp
theorem some_snoc (cs : List Cn) (j : Nat) (h : j < cs.length) : someC (cs.take (j + 1)) = (someC (cs.take j) || decide (cs[j].1 ≠ 0)) := by
  unfold someC
  rw [List.take_succ_eq_append_getElem h, List.any_append]; simp
theorem key1_len (c : Cn) : (key1 c).length ≤ 13 + c.2.1.flatten.length + c.2.2.1.flatten.length + c.2.2.2.flatten.length := by
  unfold key1
  split
  · simp [rowL_len]; omega
  · split
    · simp only [List.length_append, rowL_len, List.length_singleton]; omega
    · simp only [List.length_append, rowL_len, List.length_singleton]; omega
theorem key1_0 {c : Cn} (h : c.1 = 0) : key1 c = [0] ++ rowL c.2.1 := by rw [key1, if_pos h]
theorem key1_T {c : Cn} (h : c.1 ≠ 0) (hs : swapB c.2.2.1 c.2.2.2 = true) : key1 c = [1] ++ rowL c.2.1 ++ rowL c.2.2.2 ++ rowL c.2.2.1 := by rw [key1, if_neg h, if_pos hs]
theorem key1_F {c : Cn} (h : c.1 ≠ 0) (hs : ¬ swapB c.2.2.1 c.2.2.2 = true) : key1 c = [1] ++ rowL c.2.1 ++ rowL c.2.2.1 ++ rowL c.2.2.2 := by rw [key1, if_neg h, if_neg hs]
/-! what a text's pieces weigh -/
def wt (c : Cn) : Nat := if c.1 = 0 then c.2.1.flatten.length else c.2.1.flatten.length + c.2.2.1.flatten.length + c.2.2.2.flatten.length
def wts (cs : List Cn) : Nat := (cs.map wt).sum
theorem wts_app (a b : List Cn) : wts (a ++ b) = wts a + wts b := by simp [wts]
theorem wts_plain (l : LL) : wts (plainC l) ≤ l.flatten.length := by unfold plainC; split <;> simp [wts, wt]
/-- pieces plain or clashes, not more than is read -/
def PSok (x : PS) (n k : Nat) : Prop := (∀ c ∈ x.1, c.1 = 0 ∧ c.2.2.1 = c.2.1 ∧ c.2.2.2 = c.2.1 ∨ c.1 = 4) ∧ wts x.1 + x.2.1.flatten.length + x.2.2.1.flatten.length + x.2.2.2.1.flatten.length + x.2.2.2.2.1.flatten.length ≤ n ∧ x.1.length ≤ k
theorem plain_k (l : LL) : ∀ c ∈ plainC l, c.1 = 0 ∧ c.2.2.1 = c.2.1 ∧ c.2.2.2 = c.2.1 ∨ c.1 = 4 := by
  unfold plainC
  split
  · intro c hc; cases hc
  · intro c hc; rw [List.mem_singleton] at hc; subst hc; exact .inl ⟨rfl, rfl, rfl⟩
theorem mem_app {p : Cn → Prop} {a b : List Cn} (ha : ∀ c ∈ a, p c) (hb : ∀ c ∈ b, p c) : ∀ c ∈ a ++ b, p c := fun c hc => (List.mem_append.1 hc).elim (ha c) (hb c)
theorem pstp_ok {x y : PS} {s : List UInt8} {n k : Nat} (h : PSok x n k) (e : pstp x s = some y) : PSok y (n + s.length) (k + 1) := by
  obtain ⟨o, a, b, c, d, m⟩ := x
  obtain ⟨h1, h2, h3⟩ := h
  simp only at h1 h2 h3
  unfold pstp at e
  split at e
  · obtain rfl := Option.some.inj e
    unfold psN
    simp only
    split
    · exact ⟨h1, by simp only [List.flatten_append, List.length_append, List.flatten_cons, List.flatten_nil, List.append_nil]; omega, by simp only; omega⟩
    · split
      · exact ⟨h1, by simp only [List.flatten_append, List.length_append, List.flatten_cons, List.flatten_nil, List.append_nil]; omega, by simp only; omega⟩
      · split
        · exact ⟨h1, by simp only [List.flatten_append, List.length_append, List.flatten_cons, List.flatten_nil, List.append_nil]; omega, by simp only; omega⟩
        · exact ⟨h1, by simp only [List.flatten_append, List.length_append, List.flatten_cons, List.flatten_nil, List.append_nil]; omega, by simp only; omega⟩
  · split at e
    · cases e
    · obtain rfl := Option.some.inj e
      unfold psM
      simp only
      split
      · refine ⟨mem_app h1 (plain_k d), ?_, ?_⟩
        · have := wts_plain d
          simp only [wts_app, List.flatten_nil, List.length_nil]; omega
        · have := plain_len d
          simp only [List.length_append]; omega
      · split
        · refine ⟨mem_app h1 (fun c hc => by rw [List.mem_singleton] at hc; subst hc; exact .inr rfl), ?_, ?_⟩
          · have hw : wts [((4, b, a, c) : Cn)] = b.flatten.length + a.flatten.length + c.flatten.length := by simp [wts, wt]
            simp only [wts_app, List.flatten_nil, List.length_nil, hw]
            omega
          · simp only [List.length_append, List.length_singleton]; omega
        · exact ⟨h1, by simp only; omega, by simp only; omega⟩
theorem prun_ok : ∀ (ls : LL) (x y : PS) (n k : Nat), PSok x n k → ls.foldl (fun o s => o.bind (fun x => pstp x s)) (some x) = some y → PSok y (n + ls.flatten.length) (k + ls.length)
  | [], x, y, n, k, h, e => by
    obtain rfl := Option.some.inj e
    simpa using h
  | s :: ls, x, y, n, k, h, e => by
    rw [List.foldl_cons, Option.bind_some] at e
    cases hp : pstp x s with
    | none => rw [hp, prun_none] at e; cases e
    | some z =>
      rw [hp] at e
      have := prun_ok ls z y _ _ (pstp_ok h hp) e
      rw [List.flatten_cons, List.length_append, List.length_cons]
      rw [show n + (s.length + ls.flatten.length) = n + s.length + ls.flatten.length by omega, show k + (ls.length + 1) = k + 1 + ls.length by omega]
      exact this
theorem parse_ok (b : List UInt8) : (∀ c ∈ (parseL b).1, c.1 = 0 ∧ c.2.2.1 = c.2.1 ∧ c.2.2.2 = c.2.1 ∨ c.1 = 4) ∧ wts (parseL b).1 ≤ b.length ∧ (parseL b).1.length ≤ b.length + 1 := by
  unfold parseL
  cases h : prun (splitL [] b) with
  | none => exact ⟨(fun c hc => by cases hc), by simp [pend, wts], by simp [pend]⟩
  | some x =>
    have hk := prun_ok (splitL [] b) _ x 0 0 ⟨(fun c hc => by cases hc), by simp [wts], by simp⟩ h
    obtain ⟨h1, h2, h3⟩ := hk
    rw [flat_split] at h2
    have h4 := splitL_len b []
    simp only [List.length_nil] at h4
    simp only [pend]
    split
    · exact ⟨(fun c hc => by cases hc), by simp [wts], by simp⟩
    · refine ⟨mem_app h1 (plain_k _), ?_, ?_⟩
      · have := wts_plain x.2.2.2.2.1
        simp only [wts_app]; omega
      · have := plain_len x.2.2.2.2.1
        simp only [List.length_append]; omega
theorem wt_mem {cs : List Cn} {c : Cn} (h : c ∈ cs) : wt c ≤ wts cs := by
  unfold wts
  induction cs with
  | nil => cases h
  | cons x cs ih =>
    rw [List.map_cons, List.sum_cons]
    rcases List.mem_cons.1 h with rfl | h
    · omega
    · have := ih h; omega
theorem parse_bd {b : List UInt8} (hb : b.length ≤ 1048576) : ∀ c ∈ (parseL b).1, BdC c ∧ (c.1 = 0 ∨ c.1 = 4) := by
  obtain ⟨h1, h2, _⟩ := parse_ok b
  intro c hc
  have h3 := wt_mem hc
  rcases h1 c hc with ⟨e1, e2, e3⟩ | e1
  · rw [wt, if_pos e1] at h3
    refine ⟨⟨by omega, by rw [e2]; omega, by rw [e3]; omega⟩, .inl e1⟩
  · rw [wt, if_neg (by omega)] at h3
    exact ⟨⟨by omega, by omega, by omega⟩, .inr e1⟩
theorem keyB_len : ∀ (cs : List Cn), (∀ c ∈ cs, c.1 = 0 ∧ c.2.2.1 = c.2.1 ∧ c.2.2.2 = c.2.1 ∨ c.1 = 4) → (keyB cs).length ≤ wts cs + 13 * cs.length
  | [], _ => by simp [keyB]
  | c :: cs, h => by
    have ih := keyB_len cs (fun x hx => h x (List.mem_cons_of_mem _ hx))
    have hc : (key1 c).length ≤ wt c + 13 := by
      rcases h c (List.mem_cons_self) with ⟨e1, _⟩ | e1
      · rw [key1_0 e1, wt, if_pos e1]; simp [rowL_len]; omega
      · have := key1_len c
        rw [wt, if_neg (by omega)]; omega
    simp only [keyB, List.map_cons, List.flatten_cons, List.length_append, wts, List.sum_cons, List.length_cons] at ih ⊢
    omega
theorem key_bd2 {b : List UInt8} (hb : b.length ≤ 1048576) : (keyB (parseL b).1).length ≤ 16777216 := by
  obtain ⟨h1, h2, h3⟩ := parse_ok b
  have := keyB_len _ h1
  omega
theorem keyB_take (cs : List Cn) (j : Nat) : (keyB (cs.take j)).length ≤ (keyB cs).length := by
  unfold keyB
  conv => rhs; rw [← List.take_append_drop j cs]
  rw [List.map_append, List.flatten_append, List.length_append]; omega
theorem row_ct (v vl : Value) (k : Nat) (b : List UInt8) (l : LL) (w0 : World) (H0 : Heap)
    (ow : Ow k 5 H0 fB 1 v b) (hl : RdT H0 fS 1 vl l) (hbl : b.length ≤ 70368744177664) (hfl : l.flatten.length ≤ 1048576) :
    Ct Try.prog w0 22 #[v, vl] H0 (fun r H2 => ∃ v2 : Value, ∃ k2 : Nat, r = v2 ∧ (Ow k2 5 H2 fB 1 v2 (b ++ rowL l)) ∧ (Nx k H0.size k2) ∧ Mo (Ms [k]) H0 H2) := by
  refine Ct.enter (args := [v, vl]) Try.func22 rfl rfl rfl ?_
  intro Q0 hret
  have hm0 : Mo (Ms [k]) H0 H0 := Mo.refl _ _
  have nx_hm0_ow := Nx.refl k H0.size
  have hle_ow := ow.le
  replace hl := hl.bnd
  have bf_hl := Rd.bf hl
  refine CW.seq (fun K1 hK1 hE1 => ?_)
  refine CW.region ?_
  refine LR.v (Y.assign rfl rfl) (Wd.u rfl) rfl rfl ?_
  refine LR.nil ?_
  refine hK1 _ _ ?_
  refine CW.seq (fun K2 hK2 hE2 => ?_)
  refine CW.region ?_
  refine LR.v (Y.move rfl rfl) (Wd.u rfl) rfl rfl ?_
  -- call selvage/lines.Join
  refine LR.call rfl Try.call24 rfl (Wd.u rfl) rfl rfl (join3 _ l w0 _ hl.any (by omega)) (fun v8 H8 r8 => ?_)
  obtain ⟨v8, k8, rfl, oj, hk8, hs8⟩ := r8
  have dj1 : Dj k k8 := Dj.app (Dj.z) ow.le hk8
  have df2 := DF.app (DF.z) (bf_hl.mono hm0.size) hk8
  have nx3 : Nx 0 H0.size k8 := Nx.tr (Nx.refl 0 _) hk8 hm0.size
  replace ow := ow.nw hs8
  replace hl := hl.nw hs8
  replace hm0 := hm0.trN hs8
  have hz1 := hs8.size
  have hle_oj := oj.le
  refine LR.v (Y.assign rfl rfl) (Wd.u rfl) rfl rfl ?_
  refine LR.nil ?_
  refine hK2 _ _ ?_
  refine CW.seq (fun K3 hK3 hE3 => ?_)
  refine CW.region ?_
  refine LR.v (Y.move rfl rfl) (Wd.u rfl) rfl rfl ?_
  refine LR.v (Y.len oj.rd rfl Try.runUnderlying22 rfl) (Wd.u rfl) rfl rfl ?_
  refine LR.v (Y.assign rfl rfl) (Wd.u rfl) rfl rfl ?_
  refine LR.nil ?_
  refine hK3 _ _ ?_
  refine CW.seq (fun K4 hK4 hE4 => ?_)
  refine CW.region ?_
  refine LR.v (Y.move rfl rfl) (Wd.u rfl) rfl rfl ?_
  refine LR.v (Y.move rfl rfl) (Wd.u rfl) rfl rfl ?_
  refine LR.v (Y.shrn (24) rfl rfl rfl (by first | rfl | omega) (by omega)) (Wd.u rfl) rfl rfl ?_
  refine LR.v (Y.conv_u8 rfl Try.runUnderlying3 Try.runUnderlying5 rfl) (Wd.u rfl) rfl rfl ?_
  refine LR.v (Y.move rfl rfl) (Wd.u rfl) rfl rfl ?_
  refine LR.v (Y.shrn (16) rfl rfl rfl (by first | rfl | omega) (by omega)) (Wd.u rfl) rfl rfl ?_
  refine LR.v (Y.conv_u8 rfl Try.runUnderlying3 Try.runUnderlying5 rfl) (Wd.u rfl) rfl rfl ?_
  refine LR.v (Y.move rfl rfl) (Wd.u rfl) rfl rfl ?_
  refine LR.v (Y.shrn (8) rfl rfl rfl (by first | rfl | omega) (by omega)) (Wd.u rfl) rfl rfl ?_
  refine LR.v (Y.conv_u8 rfl Try.runUnderlying3 Try.runUnderlying5 rfl) (Wd.u rfl) rfl rfl ?_
  refine LR.v (Y.move rfl rfl) (Wd.u rfl) rfl rfl ?_
  refine LR.v (Y.conv_u8 rfl Try.runUnderlying3 Try.runUnderlying5 rfl) (Wd.u rfl) rfl rfl ?_
  refine LR.z (Z.litw _ (be32 l.flatten.length) rfl inf22 rfl rfl rfl (by decide) (by decide) fB_len fB_one (rfl)) (Wd.u rfl) rfl rfl (fun v23 H23 r23 => ?_)
  obtain ⟨ow23, hs23, ob23, hH23⟩ := r23
  have hzs23 : H23.size = H8.size + 1 := by rw [hH23]; simp
  have dj4 : Dj k (H8.size + 1) := Dj.new ow.le
  have df5 := (DF.new (bf_hl.mono hm0.size) : DF _ (H8.size + 1))
  have dj6 : Dj k8 (H8.size + 1) := Dj.new oj.le
  have nx7 : Nx 0 H0.size (H8.size + 1) := Nx.new hm0.size
  replace ow := ow.nw hs23
  replace hl := hl.nw hs23
  replace oj := oj.nw hs23
  replace hm0 := hm0.trN hs23
  have hz2 := hs23.size
  refine LR.z (Z.apnd ow ow23.rd rfl inf22 rfl rfl (by first | omega | (simp only [List.length_append, List.length_cons, List.length_nil, be32_len]; omega)) (by first | omega | (simp only [List.length_append, List.length_cons, List.length_nil, be32_len]; omega))) (Wd.u rfl) rfl rfl (fun v24 H24 r24 => ?_)
  obtain ⟨k24, ow, hk24, hs24⟩ := r24
  replace hk24 : Nx k H23.size k24 := hk24
  replace hs24 := hs24.md
  have dj8 : Dj k8 k24 := Dj.app (dj1.symm) oj.le hk24
  have dj9 : Dj (H8.size + 1) k24 := Dj.app (dj4.symm) ow23.le hk24
  have nx10 : Nx k H0.size k24 := Nx.tr (nx_hm0_ow) hk24 hm0.size
  -- LOST hl
  replace oj := oj.upL hs24 (DL.cons dj1.symm DL.nil)
  replace ow23 := ow23.upL hs24 (DL.cons dj4.symm DL.nil)
  replace hm0 := hm0.trL hs24 (MIL.cons (MI.app (MI.root (by simp)) (nx_hm0_ow) (Nat.le_refl _)) MIL.nil)
  have hz3 := hs24.size
  have hle_ow := ow.le
  refine LR.v (Y.move rfl rfl) (Wd.u rfl) rfl rfl ?_
  refine LR.z (Z.apnd ow oj.rd rfl inf22 rfl rfl (by first | omega | (simp only [List.length_append, List.length_cons, List.length_nil, be32_len]; omega)) (by first | omega | (simp only [List.length_append, List.length_cons, List.length_nil, be32_len]; omega))) (Wd.u rfl) rfl rfl (fun v26 H26 r26 => ?_)
  obtain ⟨k26, ow, hk26, hs26⟩ := r26
  replace hk26 : Nx k24 H24.size k26 := hk26
  replace hs26 := hs26.md
  have dj11 : Dj k8 k26 := Dj.app (dj8) oj.le hk26
  have dj12 : Dj (H8.size + 1) k26 := Dj.app (dj9) ow23.le hk26
  have nx13 : Nx k H0.size k26 := Nx.tr (nx10) hk26 hm0.size
  replace oj := oj.upL hs26 (DL.cons dj8 DL.nil)
  replace ow23 := ow23.upL hs26 (DL.cons dj9 DL.nil)
  replace hm0 := hm0.trL hs26 (MIL.cons (MI.app (MI.root (by simp)) (nx10) (Nat.le_refl _)) MIL.nil)
  have hz4 := hs26.size
  have hle_ow := ow.le
  refine LR.v (Y.assign rfl rfl) (Wd.u rfl) rfl rfl ?_
  refine LR.nil ?_
  refine hK4 _ _ ?_
  refine CW.ret (hret .ret (.inr rfl) _ _ _ (res1 rfl rfl) ?_)
  exact ⟨v26, k26, rfl, by rw [rowL, ← List.append_assoc]; exact ow, nx13, hm0⟩

end Go.Proofs.Ytegfnfhdgbcjbaa.RerA
