/-
  Last names, orders, and what counts.
-/
import Derived.Test.YtclhnkmkejijjaaRenA
namespace Go.Proofs.Ytclhnkmkejijjaa.RenB
open Go.Proofs.Ytclhnkmkejijjaa.E Go.RowKit Go.Proofs.Ytclhnkmkejijjaa.RenA
set_option maxRecDepth 20000
set_option linter.unusedVariables false
set_option linter.unusedSimpArgs false
set_option linter.unusedSectionVars false
set_option maxRecDepth 100000 in
theorem inf39 : Inf Try.prog 39 3 1 8 := ⟨Try.underlying39, _, _, rfl, rfl, rfl, rfl, rfl⟩

/-- a path's last name -/
def lastL (p : List UInt8) : List UInt8 := (p.reverse.takeWhile (fun c => c ≠ 47)).reverse
theorem lastL_at {p : List UInt8} {j : Nat} (hj : j ≤ p.length) (h1 : ∀ q (h : q < p.length), j ≤ q → p[q] ≠ 47) (h2 : ∀ h : 0 < j, p[j - 1]'(by omega) = 47) : lastL p = p.drop j := by
  have e : p.reverse = (p.drop j).reverse ++ (p.take j).reverse := by rw [← List.reverse_append, List.take_append_drop]
  have hd : ∀ c ∈ (p.drop j).reverse, (decide (c ≠ 47)) = true := by
    intro c hc
    rw [List.mem_reverse, List.mem_iff_getElem] at hc
    obtain ⟨q, hq, rfl⟩ := hc
    rw [List.getElem_drop]
    simpa using h1 (j + q) (by simpa using (by rw [List.length_drop] at hq; omega)) (by omega)
  unfold lastL
  rw [e, List.takeWhile_append_of_pos hd]
  rcases Nat.eq_zero_or_pos j with h0 | h0
  · subst h0; simp
  · have e2 : (p.take j).reverse = 47 :: (p.take (j - 1)).reverse := by
      have : p.take j = p.take (j - 1) ++ [47] := by
        have h3 := List.take_succ_eq_append_getElem (l := p) (i := j - 1) (by omega)
        rw [show j - 1 + 1 = j by omega, h2 h0] at h3
        exact h3
      rw [this]; simp
    rw [e2, List.takeWhile_cons]; simp
def nearL (a b : List UInt8) : Int := if lastL a = lastL b then 0 else 1
def cmpS (a b : List UInt8) : Int := if Op.bytesLess a b = true then -1 else if (!(Op.bytesLess a b) && !(decide (a = b))) = true then 1 else 0
def cmpI (a b : Int) : Int := if a < b then -1 else if a > b then 1 else 0
def orL : List Int → Int
  | [] => 0
  | x :: l => if x ≠ 0 then x else orL l
theorem orL_skip {l : List Int} {i : Nat} (h : ∀ q (h : q < l.length), q < i → l[q] = 0) (hi : i ≤ l.length) : orL l = orL (l.drop i) := by
  induction i with
  | zero => rfl
  | succ i ih =>
    rw [ih (fun q h1 h2 => h q h1 (by omega)) (by omega), List.drop_eq_getElem_cons (by omega), orL, if_neg (by simpa using h i (by omega) (by omega))]
theorem orL_at {l : List Int} {i : Nat} (h : ∀ q (h : q < l.length), q < i → l[q] = 0) (hi : i < l.length) (h2 : l[i] ≠ 0) : orL l = l[i] := by
  rw [orL_skip h (by omega), List.drop_eq_getElem_cons hi, orL, if_pos h2]
theorem orL_end {l : List Int} {i : Nat} (h : ∀ q (h : q < l.length), q < i → l[q] = 0) (hi : i = l.length) : orL l = 0 := by
  rw [orL_skip h (by omega), List.drop_of_length_le (by omega)]; rfl
/-- a pair -/
structure Pr where
  o : List UInt8
  n : List UInt8
  s : Int
  deriving DecidableEq
abbrev fPr (x : Pr) : List Value := [Str x.o, Str x.n, .int .i64 x.s]
theorem fPr_len (x : Pr) : (fPr x).length = 3 := rfl
theorem fPr_one (x : Pr) : ∀ u ∈ fPr x, u.oneCell' = true := by intro u hu; simp only [List.mem_cons, List.not_mem_nil, or_false] at hu; rcases hu with rfl | rfl | rfl <;> rfl
/-- one that may be -/
structure Lk where
  p : Pr
  r : Int
  deriving DecidableEq
abbrev fLk (x : Lk) : List Value := [Str x.p.o, Str x.p.n, .int .i64 x.p.s, .int .i64 x.r]
theorem fLk_len (x : Lk) : (fLk x).length = 4 := rfl
theorem fLk_one (x : Lk) : ∀ u ∈ fLk x, u.oneCell' = true := by intro u hu; simp only [List.mem_cons, List.not_mem_nil, or_false] at hu; rcases hu with rfl | rfl | rfl | rfl <;> rfl
def lkCmp (a b : Lk) : Int := if a = b then 0 else orL [cmpI b.p.s a.p.s, cmpI a.r b.r, cmpS a.p.o b.p.o, cmpS a.p.n b.p.n]
theorem eqPr (a b : Pr) (d : Nat) (w : World) : (Op.equalIn (d + 2) 38 (.agg (fPr a).toArray) (.agg (fPr b).toArray)).run Try.prog w = .ok (decide (a = b)) w := by
  obtain ⟨o, n, s⟩ := a
  obtain ⟨o2, n2, s2⟩ := b
  by_cases h : o = o2 <;> by_cases h2 : n = n2 <;> by_cases h3 : s = s2 <;> simp [go_sem, h, h2, h3, Str, str_beq]
theorem eqLk (a b : Lk) (d : Nat) (w : World) : (Op.equalIn (d + 3) 61 (.agg (fLk a).toArray) (.agg (fLk b).toArray)).run Try.prog w = .ok (decide (a = b)) w := by
  obtain ⟨⟨o, n, s⟩, r⟩ := a
  obtain ⟨⟨o2, n2, s2⟩, r2⟩ := b
  by_cases h : o = o2 <;> by_cases h2 : n = n2 <;> by_cases h3 : s = s2 <;> by_cases h4 : r = r2 <;> simp [go_sem, h, h2, h3, h4, Str, str_beq]
/-- a file, and where its bytes lie -/
structure Fl where
  p : List UInt8
  k : Int
  d : List UInt8
  v : SV
abbrev Fc := List UInt8 × Int × List UInt8
abbrev Fl.c (x : Fl) : Fc := (x.p, x.k, x.d)
abbrev fFl (x : Fl) : List Value := [Str x.p, .int .i64 x.k, x.v.v]
theorem fFl_len (x : Fl) : (fFl x).length = 3 := rfl
theorem fFl_one (x : Fl) : ∀ u ∈ fFl x, u.oneCell' = true := by intro u hu; simp only [List.mem_cons, List.not_mem_nil, or_false] at hu; rcases hu with rfl | rfl | rfl <;> rfl
structure FlR (F : Nat → Prop) (H : Heap) (x : Fl) : Prop where
  d : Rd F H fB 1 x.v.v x.d
  w : -9223372036854775808 ≤ x.k ∧ x.k ≤ 9223372036854775807
section
variable {F F' : Nat → Prop} {H H' : Heap} {x : Fl} {ks : List Nat} {m : Nat}
theorem FlR.nw (h : FlR F H x) (s : Nw H H') : FlR F H' x := ⟨h.d.nw s, h.w⟩
theorem FlR.imp (h : FlR F H x) (d : ∀ b, b < H.size → F b → F' b) : FlR F' H x := ⟨h.d.imp d, h.w⟩
theorem FlR.bnd (h : FlR F H x) : FlR (fun b => F b ∧ b < H.size) H x := h.imp (fun b hb h => ⟨h, hb⟩)
theorem FlR.any (h : FlR F H x) : FlR (fun _ => True) H x := h.imp (fun _ _ _ => trivial)
theorem FlR.upL (h : FlR F H x) (s : Mo (Ms ks) H H') (d : DFL F ks) : FlR F H' x := ⟨h.d.upL s d, h.w⟩
end
/-- a file whose bytes may tell where it went -/
def cntF (x : Fc) : Bool := (decide (x.2.1 = 1) || decide (x.2.1 = 2)) && decide (0 < x.2.2.length)

theorem lix_ct0 (s : List UInt8) (w0 : World) (H0 : Heap)
    (hl : s.length ≤ 9223372036854775807) :
    Ct Try.prog w0 75 #[Str s, .int .u8 (47 : UInt8).toNat] H0 (fun r H2 => ∃ j : Nat, r = .int .i64 ((j : Int) - 1) ∧ (j ≤ s.length) ∧ (lastL s = s.drop j) ∧ Nw H0 H2) := by
  refine Ct.enter (args := [Str s, .int .u8 (47 : UInt8).toNat]) Try.func75 rfl rfl rfl ?_
  intro Q0 hret
  have hm0 : Nw H0 H0 := Mo.refl _ _
  refine CW.seq (fun K1 hK1 hE1 => ?_)
  refine CW.region ?_
  refine LR.v (Y.assign rfl rfl) (Wd.u rfl) rfl rfl ?_
  refine LR.nil ?_
  refine hK1 _ _ ?_
  refine CW.seq (fun K2 hK2 hE2 => ?_)
  refine CW.seq (fun K3 hK3 hE3 => ?_)
  refine CW.region ?_
  refine LR.v (Y.move rfl rfl) (Wd.u rfl) rfl rfl ?_
  refine LR.v (Y.slen rfl Try.runUnderlying9 rfl) (Wd.u rfl) rfl rfl ?_
  refine LR.v (Y.subi rfl rfl rfl (by omega)) (Wd.u rfl) rfl rfl ?_
  refine LR.v (Y.assign rfl rfl) (Wd.u rfl) rfl rfl ?_
  refine LR.nil ?_
  refine hK3 _ _ ?_
  refine CW.block (fun K4 hK4 hX4 hE4 => ?_)
  refine CW.loop (fun (j : (Nat)) => [(0, Str s), (1, .int .u8 (47 : UInt8).toNat), (5, .int .i64 ((j : Int) - 1))])
    (fun (j : (Nat)) (H : Heap) => (j ≤ s.length) ∧ (∀ q (h : q < s.length), j ≤ q → s[q] ≠ 47) ∧ Nw H0 H)
    (fun (j : (Nat)) => j) s.length ⟨rfl, rfl, rfl, trivial⟩ ?_ ?_
  ·
    exact ⟨(by omega), (fun q h h2 => absurd h2 (by omega)), Mo.refl _ _⟩
  intro j HL1 hI1 K5 hN5 hE5
  obtain ⟨hj, hno, hlm1⟩ := hI1
  replace hm0 := hm0.tr hlm1
  have hz1 := hlm1.size
  refine CW.seq (fun K6 hK6 hE6 => ?_)
  refine CW.seq (fun K7 hK7 hE7 => ?_)
  refine CW.region ?_
  refine LR.v (Y.move rfl rfl) (Wd.u rfl) rfl rfl ?_
  refine LR.v (Y.geq rfl rfl rfl) (Wd.u rfl) rfl rfl ?_
  refine LR.nil ?_
  refine hK7 _ _ ?_
  refine CW.condp rfl (fun c10 => ?_) (fun c10 => ?_)
  ·
    refine CW.skip ?_
    refine hK6 _ _ ?_
    refine CW.seq (fun K8 hK8 hE8 => ?_)
    refine CW.block (fun K9 hK9 hX9 hE9 => ?_)
    refine CW.seq (fun K10 hK10 hE10 => ?_)
    refine CW.region ?_
    refine LR.v (Y.move rfl rfl) (Wd.u rfl) rfl rfl ?_
    refine LR.v (Y.move rfl rfl) (Wd.u rfl) rfl rfl ?_
    refine LR.v (Y.sindex (j - 1) rfl Try.runUnderlying9 rfl rfl (by first | rfl | omega) (by omega)) (Wd.u rfl) rfl rfl ?_
    refine LR.v (Y.move rfl rfl) (Wd.u rfl) rfl rfl ?_
    refine LR.v (Y.eql rfl rfl rfl) (Wd.u rfl) rfl rfl ?_
    refine LR.nil ?_
    refine hK10 _ _ ?_
    refine CW.condp rfl (fun c17 => ?_) (fun c17 => ?_)
    ·
      refine CW.seq (fun K11 hK11 hE11 => ?_)
      refine CW.region ?_
      refine LR.v (Y.move rfl rfl) (Wd.u rfl) rfl rfl ?_
      refine LR.v (Y.assign rfl rfl) (Wd.u rfl) rfl rfl ?_
      refine LR.nil ?_
      refine hK11 _ _ ?_
      refine CW.ret (hE9 .ret nofun (by simp) _ _ (hE8 .ret nofun _ _ (hE5 .ret nofun _ _ (hE4 .ret nofun (by simp) _ _ (hE2 .ret nofun _ _ (hret .ret (.inr rfl) _ _ _ (res1 rfl rfl) ?_))))))
      exact ⟨j, rfl, (by omega), lastL_at hj hno (fun h => by apply UInt8.toNat_inj.1; have := c17; simp at this ⊢; omega), hm0⟩
    ·
      refine CW.skip ?_
      refine hK9 _ _ ?_
      refine hK8 _ _ ?_
      refine CW.region ?_
      refine LR.v (Y.move rfl rfl) (Wd.u rfl) rfl rfl ?_
      refine LR.v (Y.subi rfl rfl rfl (by omega)) (Wd.u rfl) rfl rfl ?_
      refine LR.v (Y.assign rfl rfl) (Wd.u rfl) rfl rfl ?_
      refine LR.nil ?_
      refine QN.sub (hN5 (j - 1) _ ?_ ?_) ⟨rfl, (iv (by omega)), (iv (by omega)), trivial⟩
      · exact ⟨(by omega), (fun q h h2 => by rcases Nat.lt_or_ge q j with h5 | h5; (obtain rfl : q = j - 1 := by omega); exact (fun e => c17 (by first | (rw [e]; done) | (rw [e]; rfl))); exact hno q h h5), hlm1⟩
      · first | omega | (simp only; omega) | (simp; omega)
  ·
    refine CW.exit (hE6 (.exit 0) nofun _ _ (hE5 (.exit 0) nofun _ _ (hX4 _ _ ?_)))
    refine hK2 _ _ ?_
    refine CW.seq (fun K12 hK12 hE12 => ?_)
    refine CW.region ?_
    refine LR.v (Y.assign rfl rfl) (Wd.u rfl) rfl rfl ?_
    refine LR.nil ?_
    refine hK12 _ _ ?_
    refine CW.ret (hret .ret (.inr rfl) _ _ _ (res1 rfl rfl) ?_)
    obtain rfl : j = 0 := by omega
    exact ⟨0, rfl, (by omega), lastL_at hj hno (fun h => absurd h (Nat.lt_irrefl _)), hm0⟩

theorem lix_ct (s : List UInt8) (w0 : World) (H0 : Heap)
    (hl : s.length ≤ 9223372036854775807) :
    Ct Try.prog w0 55 #[Str s, .int .u8 (47 : UInt8).toNat] H0 (fun r H2 => ∃ j : Nat, r = .int .i64 ((j : Int) - 1) ∧ (j ≤ s.length) ∧ (lastL s = s.drop j) ∧ Nw H0 H2) := by
  refine Ct.enter (args := [Str s, .int .u8 (47 : UInt8).toNat]) Try.func55 rfl rfl rfl ?_
  intro Q0 hret
  have hm0 : Nw H0 H0 := Mo.refl _ _
  refine CW.seq (fun K1 hK1 hE1 => ?_)
  refine CW.region ?_
  refine LR.v (Y.assign rfl rfl) (Wd.u rfl) rfl rfl ?_
  refine LR.nil ?_
  refine hK1 _ _ ?_
  refine CW.seq (fun K2 hK2 hE2 => ?_)
  refine CW.region ?_
  refine LR.v (Y.move rfl rfl) (Wd.u rfl) rfl rfl ?_
  refine LR.v (Y.move rfl rfl) (Wd.u rfl) rfl rfl ?_
  -- call internal/bytealg.LastIndexByteString
  refine LR.call rfl Try.call75 rfl (Wd.u rfl) rfl rfl (lix_ct0 s w0 _ hl) (fun v7 H7 r7 => ?_)
  obtain ⟨j7, rfl, hj7, hl7, hs7⟩ := r7
  replace hm0 := hm0.tr hs7
  have hz1 := hs7.size
  refine LR.v (Y.assign rfl rfl) (Wd.u rfl) rfl rfl ?_
  refine LR.nil ?_
  refine hK2 _ _ ?_
  refine CW.ret (hret .ret (.inr rfl) _ _ _ (res1 rfl rfl) ?_)
  exact ⟨j7, rfl, hj7, hl7, hm0⟩

theorem last_ct (s : List UInt8) (w0 : World) (H0 : Heap)
    (hl : s.length ≤ 9223372036854775806) :
    Ct Try.prog w0 45 #[Str s] H0 (fun r H2 => r = Str (lastL s) ∧ Nw H0 H2) := by
  refine Ct.enter (args := [Str s]) Try.func45 rfl rfl rfl ?_
  intro Q0 hret
  have hm0 : Nw H0 H0 := Mo.refl _ _
  refine CW.seq (fun K1 hK1 hE1 => ?_)
  refine CW.region ?_
  refine LR.v (Y.assign rfl rfl) (Wd.u rfl) rfl rfl ?_
  refine LR.nil ?_
  refine hK1 _ _ ?_
  refine CW.seq (fun K2 hK2 hE2 => ?_)
  refine CW.region ?_
  refine LR.v (Y.move rfl rfl) (Wd.u rfl) rfl rfl ?_
  refine LR.v (Y.move rfl rfl) (Wd.u rfl) rfl rfl ?_
  -- call strings.LastIndexByte
  refine LR.call rfl Try.call55 rfl (Wd.u rfl) rfl rfl (lix_ct s w0 _ (by omega)) (fun v5 H5 r5 => ?_)
  obtain ⟨j5, rfl, hj5, hl5, hs5⟩ := r5
  replace hm0 := hm0.tr hs5
  have hz1 := hs5.size
  refine LR.v (Y.addi rfl rfl rfl (by omega)) (Wd.u rfl) rfl rfl ?_
  refine LR.v (Y.sslice (j5) (s.length) rfl Try.runUnderlying9 rfl (.inr ⟨_, _, _, rfl, rfl, by omega⟩) (.inl ⟨rfl, rfl⟩) (by omega) (by omega)) (Wd.u rfl) rfl rfl ?_
  refine LR.v (Y.assign rfl rfl) (Wd.u rfl) rfl rfl ?_
  refine LR.nil ?_
  refine hK2 _ _ ?_
  refine CW.ret (hret .ret (.inr rfl) _ _ _ (res1 rfl rfl) ?_)
  exact ⟨by rw [hl5, List.take_length], hm0⟩

theorem rlast_ct (s : List UInt8) (w0 : World) (H0 : Heap)
    (hl : s.length ≤ 9223372036854775806) :
    Ct Try.prog w0 38 #[Str s] H0 (fun r H2 => r = Str (lastL s) ∧ Nw H0 H2) := by
  refine Ct.enter (args := [Str s]) Try.func38 rfl rfl rfl ?_
  intro Q0 hret
  have hm0 : Nw H0 H0 := Mo.refl _ _
  refine CW.seq (fun K1 hK1 hE1 => ?_)
  refine CW.region ?_
  refine LR.v (Y.assign rfl rfl) (Wd.u rfl) rfl rfl ?_
  refine LR.nil ?_
  refine hK1 _ _ ?_
  refine CW.seq (fun K2 hK2 hE2 => ?_)
  refine CW.seq (fun K3 hK3 hE3 => ?_)
  refine CW.region ?_
  refine LR.v (Y.move rfl rfl) (Wd.u rfl) rfl rfl ?_
  refine LR.v (Y.slen rfl Try.runUnderlying9 rfl) (Wd.u rfl) rfl rfl ?_
  refine LR.v (Y.subi rfl rfl rfl (by omega)) (Wd.u rfl) rfl rfl ?_
  refine LR.v (Y.assign rfl rfl) (Wd.u rfl) rfl rfl ?_
  refine LR.nil ?_
  refine hK3 _ _ ?_
  refine CW.block (fun K4 hK4 hX4 hE4 => ?_)
  refine CW.loop (fun (j : (Nat)) => [(0, Str s), (3, .int .i64 ((j : Int) - 1))])
    (fun (j : (Nat)) (H : Heap) => (j ≤ s.length) ∧ (∀ q (h : q < s.length), j ≤ q → s[q] ≠ 47) ∧ Nw H0 H)
    (fun (j : (Nat)) => j) s.length ⟨rfl, rfl, trivial⟩ ?_ ?_
  ·
    exact ⟨(by omega), (fun q h h2 => absurd h2 (by omega)), Mo.refl _ _⟩
  intro j HL1 hI1 K5 hN5 hE5
  obtain ⟨hj, hno, hlm1⟩ := hI1
  replace hm0 := hm0.tr hlm1
  have hz1 := hlm1.size
  refine CW.seq (fun K6 hK6 hE6 => ?_)
  refine CW.seq (fun K7 hK7 hE7 => ?_)
  refine CW.region ?_
  refine LR.v (Y.move rfl rfl) (Wd.u rfl) rfl rfl ?_
  refine LR.v (Y.geq rfl rfl rfl) (Wd.u rfl) rfl rfl ?_
  refine LR.nil ?_
  refine hK7 _ _ ?_
  refine CW.condp rfl (fun c8 => ?_) (fun c8 => ?_)
  ·
    refine CW.skip ?_
    refine hK6 _ _ ?_
    refine CW.seq (fun K8 hK8 hE8 => ?_)
    refine CW.block (fun K9 hK9 hX9 hE9 => ?_)
    refine CW.seq (fun K10 hK10 hE10 => ?_)
    refine CW.region ?_
    refine LR.v (Y.move rfl rfl) (Wd.u rfl) rfl rfl ?_
    refine LR.v (Y.move rfl rfl) (Wd.u rfl) rfl rfl ?_
    refine LR.v (Y.sindex (j - 1) rfl Try.runUnderlying9 rfl rfl (by first | rfl | omega) (by omega)) (Wd.u rfl) rfl rfl ?_
    refine LR.v (Y.eql rfl rfl rfl) (Wd.u rfl) rfl rfl ?_
    refine LR.nil ?_
    refine hK10 _ _ ?_
    refine CW.condp rfl (fun c14 => ?_) (fun c14 => ?_)
    ·
      refine CW.seq (fun K11 hK11 hE11 => ?_)
      refine CW.region ?_
      refine LR.v (Y.move rfl rfl) (Wd.u rfl) rfl rfl ?_
      refine LR.v (Y.move rfl rfl) (Wd.u rfl) rfl rfl ?_
      refine LR.v (Y.addi rfl rfl rfl (by omega)) (Wd.u rfl) rfl rfl ?_
      refine LR.v (Y.sslice (j) (s.length) rfl Try.runUnderlying9 rfl (.inr ⟨_, _, _, rfl, rfl, by omega⟩) (.inl ⟨rfl, rfl⟩) (by omega) (by omega)) (Wd.u rfl) rfl rfl ?_
      refine LR.v (Y.assign rfl rfl) (Wd.u rfl) rfl rfl ?_
      refine LR.nil ?_
      refine hK11 _ _ ?_
      refine CW.ret (hE9 .ret nofun (by simp) _ _ (hE8 .ret nofun _ _ (hE5 .ret nofun _ _ (hE4 .ret nofun (by simp) _ _ (hE2 .ret nofun _ _ (hret .ret (.inr rfl) _ _ _ (res1 rfl rfl) ?_))))))
      exact ⟨by rw [lastL_at hj hno (fun h => by apply UInt8.toNat_inj.1; have := c14; simp at this ⊢; omega), List.take_length], hm0⟩
    ·
      refine CW.skip ?_
      refine hK9 _ _ ?_
      refine hK8 _ _ ?_
      refine CW.region ?_
      refine LR.v (Y.move rfl rfl) (Wd.u rfl) rfl rfl ?_
      refine LR.v (Y.subi rfl rfl rfl (by omega)) (Wd.u rfl) rfl rfl ?_
      refine LR.v (Y.assign rfl rfl) (Wd.u rfl) rfl rfl ?_
      refine LR.nil ?_
      refine QN.sub (hN5 (j - 1) _ ?_ ?_) ⟨rfl, (iv (by omega)), trivial⟩
      · exact ⟨(by omega), (fun q h h2 => by rcases Nat.lt_or_ge q j with h5 | h5; (obtain rfl : q = j - 1 := by omega); exact (fun e => c14 (by first | (rw [e]; done) | (rw [e]; rfl))); exact hno q h h5), hlm1⟩
      · first | omega | (simp only; omega) | (simp; omega)
  ·
    refine CW.exit (hE6 (.exit 0) nofun _ _ (hE5 (.exit 0) nofun _ _ (hX4 _ _ ?_)))
    refine hK2 _ _ ?_
    refine CW.seq (fun K12 hK12 hE12 => ?_)
    refine CW.region ?_
    refine LR.v (Y.move rfl rfl) (Wd.u rfl) rfl rfl ?_
    refine LR.v (Y.assign rfl rfl) (Wd.u rfl) rfl rfl ?_
    refine LR.nil ?_
    refine hK12 _ _ ?_
    refine CW.ret (hret .ret (.inr rfl) _ _ _ (res1 rfl rfl) ?_)
    obtain rfl : j = 0 := by omega
    exact ⟨by rw [lastL_at hj hno (fun h => absurd h (Nat.lt_irrefl _))]; rfl, hm0⟩

theorem near_ct (a b : List UInt8) (w0 : World) (H0 : Heap)
    (ha : a.length ≤ 9223372036854775806) (hb : b.length ≤ 9223372036854775806) :
    Ct Try.prog w0 31 #[Str a, Str b] H0 (fun r H2 => r = .int .i64 (nearL a b) ∧ Nw H0 H2) := by
  refine Ct.enter (args := [Str a, Str b]) Try.func31 rfl rfl rfl ?_
  intro Q0 hret
  have hm0 : Nw H0 H0 := Mo.refl _ _
  refine CW.seq (fun K1 hK1 hE1 => ?_)
  refine CW.region ?_
  refine LR.v (Y.assign rfl rfl) (Wd.u rfl) rfl rfl ?_
  refine LR.nil ?_
  refine hK1 _ _ ?_
  refine CW.seq (fun K2 hK2 hE2 => ?_)
  refine CW.seq (fun K3 hK3 hE3 => ?_)
  refine CW.region ?_
  refine LR.v (Y.move rfl rfl) (Wd.u rfl) rfl rfl ?_
  -- call selvage/rename.last
  refine LR.call rfl Try.call45 rfl (Wd.u rfl) rfl rfl (last_ct a w0 _ ha) (fun v6 H6 r6 => ?_)
  obtain ⟨rfl, hs6⟩ := r6
  replace hm0 := hm0.tr hs6
  have hz1 := hs6.size
  refine LR.v (Y.move rfl rfl) (Wd.u rfl) rfl rfl ?_
  -- call selvage/rename.last
  refine LR.call rfl Try.call45 rfl (Wd.u rfl) rfl rfl (last_ct b w0 _ hb) (fun v8 H8 r8 => ?_)
  obtain ⟨rfl, hs8⟩ := r8
  replace hm0 := hm0.tr hs8
  have hz2 := hs8.size
  refine LR.v (Y.seql rfl rfl rfl) (Wd.u rfl) rfl rfl ?_
  refine LR.nil ?_
  refine hK3 _ _ ?_
  refine CW.condp rfl (fun c9 => ?_) (fun c9 => ?_)
  ·
    refine CW.seq (fun K4 hK4 hE4 => ?_)
    refine CW.region ?_
    refine LR.v (Y.assign rfl rfl) (Wd.u rfl) rfl rfl ?_
    refine LR.nil ?_
    refine hK4 _ _ ?_
    refine CW.ret (hE2 .ret nofun _ _ (hret .ret (.inr rfl) _ _ _ (res1 rfl rfl) ?_))
    exact ⟨by first | (rw [nearL, if_pos (by assumption)]) | (rw [nearL, if_neg (by assumption)]), hm0⟩
  ·
    refine CW.skip ?_
    refine hK2 _ _ ?_
    refine CW.seq (fun K5 hK5 hE5 => ?_)
    refine CW.region ?_
    refine LR.v (Y.assign rfl rfl) (Wd.u rfl) rfl rfl ?_
    refine LR.nil ?_
    refine hK5 _ _ ?_
    refine CW.ret (hret .ret (.inr rfl) _ _ _ (res1 rfl rfl) ?_)
    exact ⟨by first | (rw [nearL, if_pos (by assumption)]) | (rw [nearL, if_neg (by assumption)]), hm0⟩

theorem nanS_ct (a : List UInt8) (w0 : World) (H0 : Heap)
     :
    Ct Try.prog w0 51 #[Str a] H0 (fun r H2 => r = .bool false ∧ Nw H0 H2) := by
  refine Ct.enter (args := [Str a]) Try.func51 rfl rfl rfl ?_
  intro Q0 hret
  have hm0 : Nw H0 H0 := Mo.refl _ _
  refine CW.seq (fun K1 hK1 hE1 => ?_)
  refine CW.region ?_
  refine LR.v (Y.assign rfl rfl) (Wd.u rfl) rfl rfl ?_
  refine LR.nil ?_
  refine hK1 _ _ ?_
  refine CW.seq (fun K2 hK2 hE2 => ?_)
  refine CW.region ?_
  refine LR.v (Y.move rfl rfl) (Wd.u rfl) rfl rfl ?_
  refine LR.v (Y.move rfl rfl) (Wd.u rfl) rfl rfl ?_
  refine LR.v (Y.cast (v2 := .bool false) (Y.sneq rfl rfl rfl) (by simp)) (Wd.u rfl) rfl rfl ?_
  refine LR.v (Y.assign rfl rfl) (Wd.u rfl) rfl rfl ?_
  refine LR.nil ?_
  refine hK2 _ _ ?_
  refine CW.ret (hret .ret (.inr rfl) _ _ _ (res1 rfl rfl) ?_)
  exact ⟨rfl, hm0⟩

theorem nanI_ct (a : Int) (w0 : World) (H0 : Heap)
     :
    Ct Try.prog w0 66 #[.int .i64 a] H0 (fun r H2 => r = .bool false ∧ Nw H0 H2) := by
  refine Ct.enter (args := [.int .i64 a]) Try.func66 rfl rfl rfl ?_
  intro Q0 hret
  have hm0 : Nw H0 H0 := Mo.refl _ _
  refine CW.seq (fun K1 hK1 hE1 => ?_)
  refine CW.region ?_
  refine LR.v (Y.assign rfl rfl) (Wd.u rfl) rfl rfl ?_
  refine LR.nil ?_
  refine hK1 _ _ ?_
  refine CW.seq (fun K2 hK2 hE2 => ?_)
  refine CW.region ?_
  refine LR.v (Y.move rfl rfl) (Wd.u rfl) rfl rfl ?_
  refine LR.v (Y.move rfl rfl) (Wd.u rfl) rfl rfl ?_
  refine LR.v (Y.cast (v2 := .bool false) (Y.neq rfl rfl rfl) (by simp)) (Wd.u rfl) rfl rfl ?_
  refine LR.v (Y.assign rfl rfl) (Wd.u rfl) rfl rfl ?_
  refine LR.nil ?_
  refine hK2 _ _ ?_
  refine CW.ret (hret .ret (.inr rfl) _ _ _ (res1 rfl rfl) ?_)
  exact ⟨rfl, hm0⟩

theorem cmpS_ct (a b : List UInt8) (w0 : World) (H0 : Heap)
     :
    Ct Try.prog w0 36 #[Str a, Str b] H0 (fun r H2 => r = .int .i64 (cmpS a b) ∧ Nw H0 H2) := by
  refine Ct.enter (args := [Str a, Str b]) Try.func36 rfl rfl rfl ?_
  intro Q0 hret
  have hm0 : Nw H0 H0 := Mo.refl _ _
  refine CW.seq (fun K1 hK1 hE1 => ?_)
  refine CW.region ?_
  refine LR.v (Y.assign rfl rfl) (Wd.u rfl) rfl rfl ?_
  refine LR.nil ?_
  refine hK1 _ _ ?_
  refine CW.seq (fun K2 hK2 hE2 => ?_)
  refine CW.region ?_
  refine LR.v (Y.move rfl rfl) (Wd.u rfl) rfl rfl ?_
  -- call cmp.isNaN[string]
  refine LR.call rfl Try.call51 rfl (Wd.u rfl) rfl rfl (nanS_ct a w0 _) (fun v8 H8 r8 => ?_)
  obtain ⟨rfl, hs8⟩ := r8
  replace hm0 := hm0.tr hs8
  have hz1 := hs8.size
  refine LR.v (Y.assign rfl rfl) (Wd.u rfl) rfl rfl ?_
  refine LR.nil ?_
  refine hK2 _ _ ?_
  refine CW.seq (fun K3 hK3 hE3 => ?_)
  refine CW.region ?_
  refine LR.v (Y.move rfl rfl) (Wd.u rfl) rfl rfl ?_
  -- call cmp.isNaN[string]
  refine LR.call rfl Try.call51 rfl (Wd.u rfl) rfl rfl (nanS_ct b w0 _) (fun v10 H10 r10 => ?_)
  obtain ⟨rfl, hs10⟩ := r10
  replace hm0 := hm0.tr hs10
  have hz2 := hs10.size
  refine LR.v (Y.assign rfl rfl) (Wd.u rfl) rfl rfl ?_
  refine LR.nil ?_
  refine hK3 _ _ ?_
  refine CW.seq (fun K4 hK4 hE4 => ?_)
  refine CW.seq (fun K5 hK5 hE5 => ?_)
  refine CW.region ?_
  refine LR.v (Y.move rfl rfl) (Wd.u rfl) rfl rfl ?_
  refine LR.nil ?_
  refine hK5 _ _ ?_
  refine CW.cond_f rfl ?_
  refine CW.skip ?_
  refine hK4 _ _ ?_
  refine CW.seq (fun K6 hK6 hE6 => ?_)
  refine CW.seq (fun K7 hK7 hE7 => ?_)
  refine CW.region ?_
  refine LR.v (Y.move rfl rfl) (Wd.u rfl) rfl rfl ?_
  refine LR.nil ?_
  refine hK7 _ _ ?_
  refine CW.cond_f rfl ?_
  refine CW.skip ?_
  refine hK6 _ _ ?_
  refine CW.seq (fun K8 hK8 hE8 => ?_)
  refine CW.seq (fun K9 hK9 hE9 => ?_)
  refine CW.region ?_
  refine LR.v (Y.move rfl rfl) (Wd.u rfl) rfl rfl ?_
  refine LR.v (Y.move rfl rfl) (Wd.u rfl) rfl rfl ?_
  refine LR.v (Y.slss rfl rfl rfl) (Wd.u rfl) rfl rfl ?_
  refine LR.nil ?_
  refine hK9 _ _ ?_
  refine CW.cond rfl (fun c16 => ?_) (fun c16 => ?_)
  ·
    refine CW.seq (fun K10 hK10 hE10 => ?_)
    refine CW.region ?_
    refine LR.v (Y.assign rfl rfl) (Wd.u rfl) rfl rfl ?_
    refine LR.nil ?_
    refine hK10 _ _ ?_
    refine CW.ret (hE8 .ret nofun _ _ (hret .ret (.inr rfl) _ _ _ (res1 rfl rfl) ?_))
    exact ⟨by rw [cmpS, if_pos (by assumption)], hm0⟩
  ·
    refine CW.skip ?_
    refine hK8 _ _ ?_
    refine CW.seq (fun K11 hK11 hE11 => ?_)
    refine CW.seq (fun K12 hK12 hE12 => ?_)
    refine CW.region ?_
    refine LR.v (Y.move rfl rfl) (Wd.u rfl) rfl rfl ?_
    refine LR.v (Y.move rfl rfl) (Wd.u rfl) rfl rfl ?_
    refine LR.v (Y.sgtr rfl rfl rfl) (Wd.u rfl) rfl rfl ?_
    refine LR.nil ?_
    refine hK12 _ _ ?_
    refine CW.cond rfl (fun c19 => ?_) (fun c19 => ?_)
    ·
      refine CW.seq (fun K13 hK13 hE13 => ?_)
      refine CW.region ?_
      refine LR.v (Y.assign rfl rfl) (Wd.u rfl) rfl rfl ?_
      refine LR.nil ?_
      refine hK13 _ _ ?_
      refine CW.ret (hE11 .ret nofun _ _ (hret .ret (.inr rfl) _ _ _ (res1 rfl rfl) ?_))
      exact ⟨by first | (rw [cmpS, if_neg (by simp [c16]), if_pos (by simpa using c19)]) | (rw [cmpS, if_neg (by simp [c16]), if_neg (by simpa using c19)]), hm0⟩
    ·
      refine CW.skip ?_
      refine hK11 _ _ ?_
      refine CW.seq (fun K14 hK14 hE14 => ?_)
      refine CW.region ?_
      refine LR.v (Y.assign rfl rfl) (Wd.u rfl) rfl rfl ?_
      refine LR.nil ?_
      refine hK14 _ _ ?_
      refine CW.ret (hret .ret (.inr rfl) _ _ _ (res1 rfl rfl) ?_)
      exact ⟨by first | (rw [cmpS, if_neg (by simp [c16]), if_pos (by simpa using c19)]) | (rw [cmpS, if_neg (by simp [c16]), if_neg (by simpa using c19)]), hm0⟩

theorem cmpI_ct (a b : Int) (w0 : World) (H0 : Heap)
     :
    Ct Try.prog w0 49 #[.int .i64 a, .int .i64 b] H0 (fun r H2 => r = .int .i64 (cmpI a b) ∧ Nw H0 H2) := by
  refine Ct.enter (args := [.int .i64 a, .int .i64 b]) Try.func49 rfl rfl rfl ?_
  intro Q0 hret
  have hm0 : Nw H0 H0 := Mo.refl _ _
  refine CW.seq (fun K1 hK1 hE1 => ?_)
  refine CW.region ?_
  refine LR.v (Y.assign rfl rfl) (Wd.u rfl) rfl rfl ?_
  refine LR.nil ?_
  refine hK1 _ _ ?_
  refine CW.seq (fun K2 hK2 hE2 => ?_)
  refine CW.region ?_
  refine LR.v (Y.move rfl rfl) (Wd.u rfl) rfl rfl ?_
  -- call cmp.isNaN[int]
  refine LR.call rfl Try.call66 rfl (Wd.u rfl) rfl rfl (nanI_ct a w0 _) (fun v8 H8 r8 => ?_)
  obtain ⟨rfl, hs8⟩ := r8
  replace hm0 := hm0.tr hs8
  have hz1 := hs8.size
  refine LR.v (Y.assign rfl rfl) (Wd.u rfl) rfl rfl ?_
  refine LR.nil ?_
  refine hK2 _ _ ?_
  refine CW.seq (fun K3 hK3 hE3 => ?_)
  refine CW.region ?_
  refine LR.v (Y.move rfl rfl) (Wd.u rfl) rfl rfl ?_
  -- call cmp.isNaN[int]
  refine LR.call rfl Try.call66 rfl (Wd.u rfl) rfl rfl (nanI_ct b w0 _) (fun v10 H10 r10 => ?_)
  obtain ⟨rfl, hs10⟩ := r10
  replace hm0 := hm0.tr hs10
  have hz2 := hs10.size
  refine LR.v (Y.assign rfl rfl) (Wd.u rfl) rfl rfl ?_
  refine LR.nil ?_
  refine hK3 _ _ ?_
  refine CW.seq (fun K4 hK4 hE4 => ?_)
  refine CW.seq (fun K5 hK5 hE5 => ?_)
  refine CW.region ?_
  refine LR.v (Y.move rfl rfl) (Wd.u rfl) rfl rfl ?_
  refine LR.nil ?_
  refine hK5 _ _ ?_
  refine CW.cond_f rfl ?_
  refine CW.skip ?_
  refine hK4 _ _ ?_
  refine CW.seq (fun K6 hK6 hE6 => ?_)
  refine CW.seq (fun K7 hK7 hE7 => ?_)
  refine CW.region ?_
  refine LR.v (Y.move rfl rfl) (Wd.u rfl) rfl rfl ?_
  refine LR.nil ?_
  refine hK7 _ _ ?_
  refine CW.cond_f rfl ?_
  refine CW.skip ?_
  refine hK6 _ _ ?_
  refine CW.seq (fun K8 hK8 hE8 => ?_)
  refine CW.seq (fun K9 hK9 hE9 => ?_)
  refine CW.region ?_
  refine LR.v (Y.move rfl rfl) (Wd.u rfl) rfl rfl ?_
  refine LR.v (Y.move rfl rfl) (Wd.u rfl) rfl rfl ?_
  refine LR.v (Y.lss rfl rfl rfl) (Wd.u rfl) rfl rfl ?_
  refine LR.nil ?_
  refine hK9 _ _ ?_
  refine CW.condp rfl (fun c16 => ?_) (fun c16 => ?_)
  ·
    refine CW.seq (fun K10 hK10 hE10 => ?_)
    refine CW.region ?_
    refine LR.v (Y.assign rfl rfl) (Wd.u rfl) rfl rfl ?_
    refine LR.nil ?_
    refine hK10 _ _ ?_
    refine CW.ret (hE8 .ret nofun _ _ (hret .ret (.inr rfl) _ _ _ (res1 rfl rfl) ?_))
    exact ⟨by rw [cmpI, if_pos (by omega)], hm0⟩
  ·
    refine CW.skip ?_
    refine hK8 _ _ ?_
    refine CW.seq (fun K11 hK11 hE11 => ?_)
    refine CW.seq (fun K12 hK12 hE12 => ?_)
    refine CW.region ?_
    refine LR.v (Y.move rfl rfl) (Wd.u rfl) rfl rfl ?_
    refine LR.v (Y.move rfl rfl) (Wd.u rfl) rfl rfl ?_
    refine LR.v (Y.gtr rfl rfl rfl) (Wd.u rfl) rfl rfl ?_
    refine LR.nil ?_
    refine hK12 _ _ ?_
    refine CW.condp rfl (fun c19 => ?_) (fun c19 => ?_)
    ·
      refine CW.seq (fun K13 hK13 hE13 => ?_)
      refine CW.region ?_
      refine LR.v (Y.assign rfl rfl) (Wd.u rfl) rfl rfl ?_
      refine LR.nil ?_
      refine hK13 _ _ ?_
      refine CW.ret (hE11 .ret nofun _ _ (hret .ret (.inr rfl) _ _ _ (res1 rfl rfl) ?_))
      exact ⟨by first | (rw [cmpI, if_neg (by omega), if_pos (by omega)]) | (rw [cmpI, if_neg (by omega), if_neg (by omega)]), hm0⟩
    ·
      refine CW.skip ?_
      refine hK11 _ _ ?_
      refine CW.seq (fun K14 hK14 hE14 => ?_)
      refine CW.region ?_
      refine LR.v (Y.assign rfl rfl) (Wd.u rfl) rfl rfl ?_
      refine LR.nil ?_
      refine hK14 _ _ ?_
      refine CW.ret (hret .ret (.inr rfl) _ _ _ (res1 rfl rfl) ?_)
      exact ⟨by first | (rw [cmpI, if_neg (by omega), if_pos (by omega)]) | (rw [cmpI, if_neg (by omega), if_neg (by omega)]), hm0⟩

theorem or_ct (v : Value) (l : List Int) (w0 : World) (H0 : Heap)
    (hl : RdT H0 fI 1 v l) :
    Ct Try.prog w0 48 #[v] H0 (fun r H2 => r = .int .i64 (orL l) ∧ Nw H0 H2) := by
  refine Ct.enter (args := [v]) Try.func48 rfl rfl rfl ?_
  intro Q0 hret
  have hm0 : Nw H0 H0 := Mo.refl _ _
  replace hl := hl.bnd
  have bf_hl := Rd.bf hl
  have hll := hl.len
  refine CW.seq (fun K1 hK1 hE1 => ?_)
  refine CW.region ?_
  refine LR.v (Y.assign rfl rfl) (Wd.u rfl) rfl rfl ?_
  refine LR.nil ?_
  refine hK1 _ _ ?_
  refine CW.seq (fun K2 hK2 hE2 => ?_)
  refine CW.region ?_
  refine LR.v (Y.assign rfl rfl) (Wd.u rfl) rfl rfl ?_
  refine LR.nil ?_
  refine hK2 _ _ ?_
  refine CW.seq (fun K3 hK3 hE3 => ?_)
  refine CW.seq (fun K4 hK4 hE4 => ?_)
  refine CW.region ?_
  refine LR.v (Y.move rfl rfl) (Wd.u rfl) rfl rfl ?_
  refine LR.v (Y.len hl rfl Try.runUnderlying39 rfl) (Wd.u rfl) rfl rfl ?_
  refine LR.v (Y.move rfl rfl) (Wd.u rfl) rfl rfl ?_
  refine LR.nil ?_
  refine hK4 _ _ ?_
  refine CW.block (fun K5 hK5 hX5 hE5 => ?_)
  refine CW.loop (fun (i : (Nat)) => [(3, .int .i64 (0)), (6, v), (7, .int .i64 l.length), (8, .int .i64 i)])
    (fun (i : (Nat)) (H : Heap) => (i ≤ l.length) ∧ (∀ q (h : q < l.length), q < i → l[q] = 0) ∧ Nw H0 H)
    (fun (i : (Nat)) => l.length - i) 0 ⟨rfl, rfl, rfl, rfl, trivial⟩ ?_ ?_
  ·
    exact ⟨(by omega), (fun q h h2 => absurd h2 (Nat.not_lt_zero _)), Mo.refl _ _⟩
  intro i HL1 hI1 K6 hN6 hE6
  obtain ⟨hi, hz, hlm1⟩ := hI1
  replace hl := hl.nw hlm1
  replace hm0 := hm0.tr hlm1
  have hz1 := hlm1.size
  refine CW.seq (fun K7 hK7 hE7 => ?_)
  refine CW.region ?_
  refine LR.v (Y.lss rfl rfl rfl) (Wd.u rfl) rfl rfl ?_
  refine LR.nil ?_
  refine hK7 _ _ ?_
  refine CW.seq (fun K8 hK8 hE8 => ?_)
  refine CW.condp rfl (fun c9 => ?_) (fun c9 => ?_)
  ·
    refine CW.skip ?_
    refine hK8 _ _ ?_
    refine CW.seq (fun K9 hK9 hE9 => ?_)
    refine CW.block (fun K10 hK10 hX10 hE10 => ?_)
    refine CW.seq (fun K11 hK11 hE11 => ?_)
    refine CW.region ?_
    refine LR.e (g := fun ad => .pointer (some ad)) (Y.indexAddrF hl (i) rfl Try.runUnderlying39 Try.sizeOf3 rfl rfl (by first | rfl | omega) (by first | omega | (simp; omega) | (simp; done))) (Wd.u rfl) rfl rfl (fun ad10 pt10 => ?_)
    have bf_pt10 := bf_hl
    refine LR.v (Y.load1 pt10.pt rfl Try.isAgg3 rfl) (Wd.u rfl) rfl rfl ?_
    refine LR.v (Y.assign rfl rfl) (Wd.u rfl) rfl rfl ?_
    refine LR.nil ?_
    refine hK11 _ _ ?_
    refine CW.seq (fun K12 hK12 hE12 => ?_)
    refine CW.region ?_
    refine LR.v (Y.move rfl rfl) (Wd.u rfl) rfl rfl ?_
    refine LR.v (Y.move rfl rfl) (Wd.u rfl) rfl rfl ?_
    refine LR.v (Y.neq rfl rfl rfl) (Wd.u rfl) rfl rfl ?_
    refine LR.nil ?_
    refine hK12 _ _ ?_
    refine CW.condp rfl (fun c14 => ?_) (fun c14 => ?_)
    ·
      refine CW.seq (fun K13 hK13 hE13 => ?_)
      refine CW.region ?_
      refine LR.v (Y.move rfl rfl) (Wd.u rfl) rfl rfl ?_
      refine LR.v (Y.assign rfl rfl) (Wd.u rfl) rfl rfl ?_
      refine LR.nil ?_
      refine hK13 _ _ ?_
      refine CW.ret (hE10 .ret nofun (by simp) _ _ (hE9 .ret nofun _ _ (hE6 .ret nofun _ _ (hE5 .ret nofun (by simp) _ _ (hE3 .ret nofun _ _ (hret .ret (.inr rfl) _ _ _ (res1 rfl rfl) ?_))))))
      exact ⟨by rw [orL_at hz (by omega) (by simpa using c14)], hm0⟩
    ·
      refine CW.skip ?_
      refine hK10 _ _ ?_
      refine hK9 _ _ ?_
      refine CW.region ?_
      refine LR.v (Y.addi rfl rfl rfl (by omega)) (Wd.u rfl) rfl rfl ?_
      refine LR.v (Y.move rfl rfl) (Wd.u rfl) rfl rfl ?_
      refine LR.nil ?_
      refine QN.sub (hN6 (i + 1) _ ?_ ?_) ⟨(iv (by omega)), rfl, (iv (by omega)), (iv (by omega)), trivial⟩
      · exact ⟨(by omega), (fun q h h2 => by rcases Nat.lt_succ_iff_lt_or_eq.1 h2 with h5 | rfl; exact hz q h h5; simpa using c14), hlm1⟩
      · first | omega | (simp only; omega) | (simp; omega)
  ·
    refine CW.exit (hE8 (.exit 0) nofun _ _ (hE6 (.exit 0) nofun _ _ (hX5 _ _ ?_)))
    refine hK3 _ _ ?_
    refine CW.seq (fun K14 hK14 hE14 => ?_)
    refine CW.region ?_
    refine LR.v (Y.move rfl rfl) (Wd.u rfl) rfl rfl ?_
    refine LR.v (Y.assign rfl rfl) (Wd.u rfl) rfl rfl ?_
    refine LR.nil ?_
    refine hK14 _ _ ?_
    refine CW.ret (hret .ret (.inr rfl) _ _ _ (res1 rfl rfl) ?_)
    exact ⟨by rw [orL_end hz (by omega)], hm0⟩

theorem dcmp_ct (a b : Pr) (w0 : World) (H0 : Heap)
     :
    Ct Try.prog w0 35 #[.agg (fPr a).toArray, .agg (fPr b).toArray] H0 (fun r H2 => r = .int .i64 (cmpS a.o b.o) ∧ Nw H0 H2) := by
  refine Ct.enter (args := [.agg (fPr a).toArray, .agg (fPr b).toArray]) Try.func35 rfl rfl rfl ?_
  intro Q0 hret
  have hm0 : Nw H0 H0 := Mo.refl _ _
  refine CW.seq (fun K1 hK1 hE1 => ?_)
  refine CW.region ?_
  refine LR.z (Z.boxv rfl rfl) (Wd.u rfl) rfl rfl (fun v2 H2 r2 => ?_)
  obtain ⟨rfl, ha, hs2, ob2, hH2⟩ := r2
  have hzs2 : H2.size = H0.size + 1 := by rw [hH2]; simp
  have nx1 : Nx 0 H0.size (H0.size + 1) := Nx.new hm0.size
  replace hm0 := hm0.tr hs2
  have hz1 := hs2.size
  replace ha : Var 38 H2 H0.size (fPr a) := ha
  refine LR.z (Z.boxv rfl rfl) (Wd.u rfl) rfl rfl (fun v3 H3 r3 => ?_)
  obtain ⟨rfl, hb, hs3, ob3, hH3⟩ := r3
  have hzs3 : H3.size = H2.size + 1 := by rw [hH3]; simp
  have dj2 : Dj (H0.size + 1) (H2.size + 1) := Dj.new ha.lt
  have nx3 : Nx 0 H0.size (H2.size + 1) := Nx.new hm0.size
  replace ha := ha.nw hs3
  replace hm0 := hm0.tr hs3
  have hz2 := hs3.size
  replace hb : Var 38 H3 H2.size (fPr b) := hb
  refine LR.v (Y.assign rfl rfl) (Wd.u rfl) rfl rfl ?_
  refine LR.nil ?_
  refine hK1 _ _ ?_
  refine CW.seq (fun K2 hK2 hE2 => ?_)
  refine CW.region ?_
  refine LR.v (Y.fieldAddr ha.pt rfl Try.runUnderlying38 rfl rfl Try.sizeOf9 (by decide) rfl) (Wd.u rfl) rfl rfl ?_
  refine LR.v (Y.load1 ha.pt rfl Try.isAgg9 rfl) (Wd.u rfl) rfl rfl ?_
  refine LR.v (Y.fieldAddr hb.pt rfl Try.runUnderlying38 rfl rfl Try.sizeOf9 (by decide) rfl) (Wd.u rfl) rfl rfl ?_
  refine LR.v (Y.load1 hb.pt rfl Try.isAgg9 rfl) (Wd.u rfl) rfl rfl ?_
  -- call cmp.Compare[string]
  refine LR.call rfl Try.call36 rfl (Wd.u rfl) rfl rfl (cmpS_ct a.o b.o w0 _) (fun v9 H9 r9 => ?_)
  obtain ⟨rfl, hs9⟩ := r9
  replace ha := ha.nw hs9
  replace hb := hb.nw hs9
  replace hm0 := hm0.tr hs9
  have hz3 := hs9.size
  refine LR.v (Y.assign rfl rfl) (Wd.u rfl) rfl rfl ?_
  refine LR.nil ?_
  refine hK2 _ _ ?_
  refine CW.ret (hret .ret (.inr rfl) _ _ _ (res1 rfl rfl) ?_)
  exact ⟨rfl, hm0⟩

theorem cnt_ct (x : Fl) (w0 : World) (H0 : Heap)
    (hx : FlR (fun _ => True) H0 x) :
    Ct Try.prog w0 29 #[.agg (fFl x).toArray] H0 (fun r H2 => r = .bool (cntF x.c) ∧ Nw H0 H2) := by
  refine Ct.enter (args := [.agg (fFl x).toArray]) Try.func29 rfl rfl rfl ?_
  intro Q0 hret
  have hm0 : Nw H0 H0 := Mo.refl _ _
  have hxd := hx.d.len
  refine CW.seq (fun K1 hK1 hE1 => ?_)
  refine CW.region ?_
  refine LR.z (Z.boxv rfl rfl) (Wd.u rfl) rfl rfl (fun v1 H1 r1 => ?_)
  obtain ⟨rfl, ha, hs1, ob1, hH1⟩ := r1
  have hzs1 : H1.size = H0.size + 1 := by rw [hH1]; simp
  have nx1 : Nx 0 H0.size (H0.size + 1) := Nx.new hm0.size
  replace hx := hx.nw hs1
  replace hm0 := hm0.tr hs1
  have hz1 := hs1.size
  replace ha : Var 35 H1 H0.size (fFl x) := ha
  refine LR.v (Y.assign rfl rfl) (Wd.u rfl) rfl rfl ?_
  refine LR.nil ?_
  refine hK1 _ _ ?_
  refine CW.seq (fun K2 hK2 hE2 => ?_)
  refine CW.region ?_
  refine LR.v (Y.fieldAddr ha.pt rfl Try.runUnderlying35 rfl rfl Try.sizeOf3 (by decide) rfl) (Wd.u rfl) rfl rfl ?_
  refine LR.v (Y.load1 (ha.pt.drop 1) rfl Try.isAgg3 rfl) (Wd.u rfl) rfl rfl ?_
  refine LR.v (Y.eql rfl rfl rfl) (Wd.u rfl) rfl rfl ?_
  refine LR.v (Y.move rfl rfl) (Wd.u rfl) rfl rfl ?_
  refine LR.splitp (d := 6) rfl (fun g6 => ?_) (fun g6 => ?_)
  ·
    refine LR.gs rfl rfl rfl rfl rfl rfl ?_
    refine LR.gs rfl rfl rfl rfl rfl rfl ?_
    refine LR.gs rfl rfl rfl rfl rfl rfl ?_
    refine LR.v (Y.pick_t rfl rfl rfl) (Wd.u rfl) rfl rfl ?_
    refine LR.v (Y.move rfl rfl) (Wd.u rfl) rfl rfl ?_
    refine LR.v (Y.fieldAddr ha.pt rfl Try.runUnderlying35 rfl rfl Try.sizeOf22 (by decide) rfl) (Wd.g rfl rfl rfl) rfl rfl ?_
    refine LR.v (Y.load1 (ha.pt.drop 2) rfl Try.isAgg22 rfl) (Wd.g rfl rfl rfl) rfl rfl ?_
    refine LR.v (Y.len hx.d rfl Try.runUnderlying22 rfl) (Wd.g rfl rfl rfl) rfl rfl ?_
    refine LR.v (Y.gtr rfl rfl rfl) (Wd.g rfl rfl rfl) rfl rfl ?_
    refine LR.v (Y.pick_t rfl rfl rfl) (Wd.u rfl) rfl rfl ?_
    refine LR.v (Y.assign rfl rfl) (Wd.u rfl) rfl rfl ?_
    refine LR.nil ?_
    refine hK2 _ _ ?_
    refine CW.ret (hret .ret (.inr rfl) _ _ _ (res1 rfl rfl) ?_)
    exact ⟨by simp [cntF, Fl.c, *] <;> omega, hm0⟩
  ·
    refine LR.v (Y.fieldAddr ha.pt rfl Try.runUnderlying35 rfl rfl Try.sizeOf3 (by decide) rfl) (Wd.g rfl rfl rfl) rfl rfl ?_
    refine LR.v (Y.load1 (ha.pt.drop 1) rfl Try.isAgg3 rfl) (Wd.g rfl rfl rfl) rfl rfl ?_
    refine LR.v (Y.eql rfl rfl rfl) (Wd.g rfl rfl rfl) rfl rfl ?_
    refine LR.v (Y.pick_f rfl rfl rfl) (Wd.u rfl) rfl rfl ?_
    refine LR.v (Y.move rfl rfl) (Wd.u rfl) rfl rfl ?_
    refine LR.splitp (d := 11) rfl (fun g11 => ?_) (fun g11 => ?_)
    ·
      refine LR.v (Y.fieldAddr ha.pt rfl Try.runUnderlying35 rfl rfl Try.sizeOf22 (by decide) rfl) (Wd.g rfl rfl rfl) rfl rfl ?_
      refine LR.v (Y.load1 (ha.pt.drop 2) rfl Try.isAgg22 rfl) (Wd.g rfl rfl rfl) rfl rfl ?_
      refine LR.v (Y.len hx.d rfl Try.runUnderlying22 rfl) (Wd.g rfl rfl rfl) rfl rfl ?_
      refine LR.v (Y.gtr rfl rfl rfl) (Wd.g rfl rfl rfl) rfl rfl ?_
      refine LR.v (Y.pick_t rfl rfl rfl) (Wd.u rfl) rfl rfl ?_
      refine LR.v (Y.assign rfl rfl) (Wd.u rfl) rfl rfl ?_
      refine LR.nil ?_
      refine hK2 _ _ ?_
      refine CW.ret (hret .ret (.inr rfl) _ _ _ (res1 rfl rfl) ?_)
      exact ⟨by simp [cntF, Fl.c, *] <;> omega, hm0⟩
    ·
      refine LR.gs rfl rfl rfl rfl rfl rfl ?_
      refine LR.gs rfl rfl rfl rfl rfl rfl ?_
      refine LR.gs rfl rfl rfl rfl rfl rfl ?_
      refine LR.gs rfl rfl rfl rfl rfl rfl ?_
      refine LR.v (Y.pick_f rfl rfl rfl) (Wd.u rfl) rfl rfl ?_
      refine LR.v (Y.assign rfl rfl) (Wd.u rfl) rfl rfl ?_
      refine LR.nil ?_
      refine hK2 _ _ ?_
      refine CW.ret (hret .ret (.inr rfl) _ _ _ (res1 rfl rfl) ?_)
      exact ⟨by simp [cntF, Fl.c, *] <;> omega, hm0⟩

theorem rcnt_ct (x : Fl) (w0 : World) (H0 : Heap)
    (hx : FlR (fun _ => True) H0 x) :
    Ct Try.prog w0 37 #[.agg (fFl x).toArray] H0 (fun r H2 => r = .bool (cntF x.c) ∧ Nw H0 H2) := by
  refine Ct.enter (args := [.agg (fFl x).toArray]) Try.func37 rfl rfl rfl ?_
  intro Q0 hret
  have hm0 : Nw H0 H0 := Mo.refl _ _
  have hxd := hx.d.len
  refine CW.seq (fun K1 hK1 hE1 => ?_)
  refine CW.region ?_
  refine LR.z (Z.boxv rfl rfl) (Wd.u rfl) rfl rfl (fun v1 H1 r1 => ?_)
  obtain ⟨rfl, ha, hs1, ob1, hH1⟩ := r1
  have hzs1 : H1.size = H0.size + 1 := by rw [hH1]; simp
  have nx1 : Nx 0 H0.size (H0.size + 1) := Nx.new hm0.size
  replace hx := hx.nw hs1
  replace hm0 := hm0.tr hs1
  have hz1 := hs1.size
  replace ha : Var 35 H1 H0.size (fFl x) := ha
  refine LR.v (Y.assign rfl rfl) (Wd.u rfl) rfl rfl ?_
  refine LR.nil ?_
  refine hK1 _ _ ?_
  refine CW.seq (fun K2 hK2 hE2 => ?_)
  refine CW.region ?_
  refine LR.v (Y.fieldAddr ha.pt rfl Try.runUnderlying35 rfl rfl Try.sizeOf3 (by decide) rfl) (Wd.u rfl) rfl rfl ?_
  refine LR.v (Y.load1 (ha.pt.drop 1) rfl Try.isAgg3 rfl) (Wd.u rfl) rfl rfl ?_
  refine LR.v (Y.eql rfl rfl rfl) (Wd.u rfl) rfl rfl ?_
  refine LR.v (Y.move rfl rfl) (Wd.u rfl) rfl rfl ?_
  refine LR.splitp (d := 6) rfl (fun g6 => ?_) (fun g6 => ?_)
  ·
    refine LR.gs rfl rfl rfl rfl rfl rfl ?_
    refine LR.gs rfl rfl rfl rfl rfl rfl ?_
    refine LR.gs rfl rfl rfl rfl rfl rfl ?_
    refine LR.v (Y.pick_t rfl rfl rfl) (Wd.u rfl) rfl rfl ?_
    refine LR.v (Y.move rfl rfl) (Wd.u rfl) rfl rfl ?_
    refine LR.v (Y.fieldAddr ha.pt rfl Try.runUnderlying35 rfl rfl Try.sizeOf22 (by decide) rfl) (Wd.g rfl rfl rfl) rfl rfl ?_
    refine LR.v (Y.load1 (ha.pt.drop 2) rfl Try.isAgg22 rfl) (Wd.g rfl rfl rfl) rfl rfl ?_
    refine LR.v (Y.len hx.d rfl Try.runUnderlying22 rfl) (Wd.g rfl rfl rfl) rfl rfl ?_
    refine LR.v (Y.gtr rfl rfl rfl) (Wd.g rfl rfl rfl) rfl rfl ?_
    refine LR.v (Y.pick_t rfl rfl rfl) (Wd.u rfl) rfl rfl ?_
    refine LR.v (Y.assign rfl rfl) (Wd.u rfl) rfl rfl ?_
    refine LR.nil ?_
    refine hK2 _ _ ?_
    refine CW.ret (hret .ret (.inr rfl) _ _ _ (res1 rfl rfl) ?_)
    exact ⟨by simp [cntF, Fl.c, *] <;> omega, hm0⟩
  ·
    refine LR.v (Y.fieldAddr ha.pt rfl Try.runUnderlying35 rfl rfl Try.sizeOf3 (by decide) rfl) (Wd.g rfl rfl rfl) rfl rfl ?_
    refine LR.v (Y.load1 (ha.pt.drop 1) rfl Try.isAgg3 rfl) (Wd.g rfl rfl rfl) rfl rfl ?_
    refine LR.v (Y.eql rfl rfl rfl) (Wd.g rfl rfl rfl) rfl rfl ?_
    refine LR.v (Y.pick_f rfl rfl rfl) (Wd.u rfl) rfl rfl ?_
    refine LR.v (Y.move rfl rfl) (Wd.u rfl) rfl rfl ?_
    refine LR.splitp (d := 11) rfl (fun g11 => ?_) (fun g11 => ?_)
    ·
      refine LR.v (Y.fieldAddr ha.pt rfl Try.runUnderlying35 rfl rfl Try.sizeOf22 (by decide) rfl) (Wd.g rfl rfl rfl) rfl rfl ?_
      refine LR.v (Y.load1 (ha.pt.drop 2) rfl Try.isAgg22 rfl) (Wd.g rfl rfl rfl) rfl rfl ?_
      refine LR.v (Y.len hx.d rfl Try.runUnderlying22 rfl) (Wd.g rfl rfl rfl) rfl rfl ?_
      refine LR.v (Y.gtr rfl rfl rfl) (Wd.g rfl rfl rfl) rfl rfl ?_
      refine LR.v (Y.pick_t rfl rfl rfl) (Wd.u rfl) rfl rfl ?_
      refine LR.v (Y.assign rfl rfl) (Wd.u rfl) rfl rfl ?_
      refine LR.nil ?_
      refine hK2 _ _ ?_
      refine CW.ret (hret .ret (.inr rfl) _ _ _ (res1 rfl rfl) ?_)
      exact ⟨by simp [cntF, Fl.c, *] <;> omega, hm0⟩
    ·
      refine LR.gs rfl rfl rfl rfl rfl rfl ?_
      refine LR.gs rfl rfl rfl rfl rfl rfl ?_
      refine LR.gs rfl rfl rfl rfl rfl rfl ?_
      refine LR.gs rfl rfl rfl rfl rfl rfl ?_
      refine LR.v (Y.pick_f rfl rfl rfl) (Wd.u rfl) rfl rfl ?_
      refine LR.v (Y.assign rfl rfl) (Wd.u rfl) rfl rfl ?_
      refine LR.nil ?_
      refine hK2 _ _ ?_
      refine CW.ret (hret .ret (.inr rfl) _ _ _ (res1 rfl rfl) ?_)
      exact ⟨by simp [cntF, Fl.c, *] <;> omega, hm0⟩


section
variable {P : Program} {w0 : World} {n : Nat} {l : FL} {H : Heap} {o : Oper}
theorem _root_.Go.Proofs.Ytclhnkmkejijjaa.E.Y.bneq {x y : Operand} {t u : TypeId} {a b : Bool} (ho : o.op = .binOp .neq t x y u) (ht : P.underlying t = some .bool) (hx : opv l x = some (.bool a)) (hy : opv l y = some (.bool b)) : Y P w0 n l H o (.bool (decide (a ≠ b))) := by
  intro ac w hf ha
  have h := run_equalIn_bool' w 9999 t a b ht
  have h2 : (a == b) = decide (a = b) := by cases a <;> cases b <;> rfl
  rw [h2] at h
  simp [execOp, ho, hf.eval hx, hf.eval hy, binOp, eqGuard, Op.equal, Op.maxDepth, h]
end
def ahead (a b : Pr) : Bool :=
  if a.s ≠ b.s then decide (b.s < a.s)
  else if (decide (lastL a.o = lastL a.n)) ≠ (decide (lastL b.o = lastL b.n)) then decide (lastL a.o = lastL a.n)
  else if a.o ≠ b.o then Op.bytesLess a.o b.o else Op.bytesLess a.n b.n

theorem ahead_ct (a b : Pr) (w0 : World) (H0 : Heap)
    (ha : a.o.length ≤ 9223372036854775806 ∧ a.n.length ≤ 9223372036854775806) (hb : b.o.length ≤ 9223372036854775806 ∧ b.n.length ≤ 9223372036854775806) :
    Ct Try.prog w0 39 #[.agg (fPr a).toArray, .agg (fPr b).toArray] H0 (fun r H2 => r = .bool (ahead a b) ∧ Nw H0 H2) := by
  refine Ct.enter (args := [.agg (fPr a).toArray, .agg (fPr b).toArray]) Try.func39 rfl rfl rfl ?_
  intro Q0 hret
  have hm0 : Nw H0 H0 := Mo.refl _ _
  refine CW.seq (fun K1 hK1 hE1 => ?_)
  refine CW.region ?_
  refine LR.z (Z.boxv rfl rfl) (Wd.u rfl) rfl rfl (fun v2 H2 r2 => ?_)
  obtain ⟨rfl, va, hs2, ob2, hH2⟩ := r2
  have hzs2 : H2.size = H0.size + 1 := by rw [hH2]; simp
  have nx1 : Nx 0 H0.size (H0.size + 1) := Nx.new hm0.size
  replace hm0 := hm0.tr hs2
  have hz1 := hs2.size
  replace va : Var 38 H2 H0.size (fPr a) := va
  refine LR.z (Z.boxv rfl rfl) (Wd.u rfl) rfl rfl (fun v3 H3 r3 => ?_)
  obtain ⟨rfl, vb, hs3, ob3, hH3⟩ := r3
  have hzs3 : H3.size = H2.size + 1 := by rw [hH3]; simp
  have dj2 : Dj (H0.size + 1) (H2.size + 1) := Dj.new va.lt
  have nx3 : Nx 0 H0.size (H2.size + 1) := Nx.new hm0.size
  replace va := va.nw hs3
  replace hm0 := hm0.tr hs3
  have hz2 := hs3.size
  replace vb : Var 38 H3 H2.size (fPr b) := vb
  refine LR.v (Y.assign rfl rfl) (Wd.u rfl) rfl rfl ?_
  refine LR.nil ?_
  refine hK1 _ _ ?_
  refine CW.seq (fun K2 hK2 hE2 => ?_)
  refine CW.seq (fun K3 hK3 hE3 => ?_)
  refine CW.region ?_
  refine LR.v (Y.fieldAddr va.pt rfl Try.runUnderlying38 rfl rfl Try.sizeOf3 (by decide) rfl) (Wd.u rfl) rfl rfl ?_
  refine LR.v (Y.load1 (va.pt.drop 2) rfl Try.isAgg3 rfl) (Wd.u rfl) rfl rfl ?_
  refine LR.v (Y.fieldAddr vb.pt rfl Try.runUnderlying38 rfl rfl Try.sizeOf3 (by decide) rfl) (Wd.u rfl) rfl rfl ?_
  refine LR.v (Y.load1 (vb.pt.drop 2) rfl Try.isAgg3 rfl) (Wd.u rfl) rfl rfl ?_
  refine LR.v (Y.neq rfl rfl rfl) (Wd.u rfl) rfl rfl ?_
  refine LR.nil ?_
  refine hK3 _ _ ?_
  refine CW.condp rfl (fun c11 => ?_) (fun c11 => ?_)
  ·
    refine CW.seq (fun K4 hK4 hE4 => ?_)
    refine CW.region ?_
    refine LR.v (Y.fieldAddr va.pt rfl Try.runUnderlying38 rfl rfl Try.sizeOf3 (by decide) rfl) (Wd.u rfl) rfl rfl ?_
    refine LR.v (Y.load1 (va.pt.drop 2) rfl Try.isAgg3 rfl) (Wd.u rfl) rfl rfl ?_
    refine LR.v (Y.fieldAddr vb.pt rfl Try.runUnderlying38 rfl rfl Try.sizeOf3 (by decide) rfl) (Wd.u rfl) rfl rfl ?_
    refine LR.v (Y.load1 (vb.pt.drop 2) rfl Try.isAgg3 rfl) (Wd.u rfl) rfl rfl ?_
    refine LR.v (Y.gtr rfl rfl rfl) (Wd.u rfl) rfl rfl ?_
    refine LR.v (Y.assign rfl rfl) (Wd.u rfl) rfl rfl ?_
    refine LR.nil ?_
    refine hK4 _ _ ?_
    refine CW.ret (hE2 .ret nofun _ _ (hret .ret (.inr rfl) _ _ _ (res1 rfl rfl) ?_))
    exact ⟨by simp [ahead, *], hm0⟩
  ·
    refine CW.skip ?_
    refine hK2 _ _ ?_
    refine CW.seq (fun K5 hK5 hE5 => ?_)
    refine CW.region_any (fun Hq => Nw H3 Hq) [] rfl ?_
    have hqs := Nw.refl H3
    refine LH.take 0 (by kernel_rfl) rfl (by kernel_rfl) (by kernel_rfl) (by kernel_rfl) (fun Hq hq => Y.fieldAddr (va.pt.nw hq) rfl Try.runUnderlying38 rfl rfl Try.sizeOf9 (by decide) rfl) (Wd.u rfl) rfl rfl hqs ?_
    refine LH.take 1 (by kernel_rfl) rfl (by kernel_rfl) (by kernel_rfl) (by kernel_rfl) (fun Hq hq => Y.load1 (va.pt.nw hq) rfl Try.isAgg9 rfl) (Wd.u rfl) rfl rfl hqs ?_
    refine LH.take 3 (by kernel_rfl) rfl (by kernel_rfl) (by kernel_rfl) (by kernel_rfl) (fun Hq hq => Y.fieldAddr (va.pt.nw hq) rfl Try.runUnderlying38 rfl rfl Try.sizeOf9 (by decide) rfl) (Wd.u rfl) rfl rfl hqs ?_
    refine LH.take 4 (by kernel_rfl) rfl (by kernel_rfl) (by kernel_rfl) (by kernel_rfl) (fun Hq hq => Y.load1 ((va.pt.drop 1).nw hq) rfl Try.isAgg9 rfl) (Wd.u rfl) rfl rfl hqs ?_
    refine LH.take 7 (by kernel_rfl) rfl (by kernel_rfl) (by kernel_rfl) (by kernel_rfl) (fun Hq hq => Y.fieldAddr (vb.pt.nw hq) rfl Try.runUnderlying38 rfl rfl Try.sizeOf9 (by decide) rfl) (Wd.u rfl) rfl rfl hqs ?_
    refine LH.take 8 (by kernel_rfl) rfl (by kernel_rfl) (by kernel_rfl) (by kernel_rfl) (fun Hq hq => Y.load1 (vb.pt.nw hq) rfl Try.isAgg9 rfl) (Wd.u rfl) rfl rfl hqs ?_
    refine LH.take 10 (by kernel_rfl) rfl (by kernel_rfl) (by kernel_rfl) (by kernel_rfl) (fun Hq hq => Y.fieldAddr (vb.pt.nw hq) rfl Try.runUnderlying38 rfl rfl Try.sizeOf9 (by decide) rfl) (Wd.u rfl) rfl rfl hqs ?_
    refine LH.take 11 (by kernel_rfl) rfl (by kernel_rfl) (by kernel_rfl) (by kernel_rfl) (fun Hq hq => Y.load1 ((vb.pt.drop 1).nw hq) rfl Try.isAgg9 rfl) (Wd.u rfl) rfl rfl hqs ?_
    refine LH.one (i := 2) (by kernel_rfl) ?_
    -- call selvage/selvageref16.Last
    refine LO.call rfl rfl Try.call38 rfl (Wd.u rfl) rfl rfl (rlast_ct a.o w0 _ ha.1) (fun v19 H19 r19 => ?_)
    obtain ⟨rfl, hs19⟩ := r19
    replace va := va.nw hs19
    replace vb := vb.nw hs19
    replace hm0 := hm0.tr hs19
    have hz3 := hs19.size
    have hq19 := hqs.tr hs19
    refine ⟨.inr hq19, LH.narrow (SH2 := fun Hq => Nw H19 Hq) (fun Hq hq => hq19.tr hq) ?_⟩
    have hqn19 := Nw.refl H19
    refine LH.one (i := 5) (by kernel_rfl) ?_
    -- call selvage/selvageref16.Last
    refine LO.call rfl rfl Try.call38 rfl (Wd.u rfl) rfl rfl (rlast_ct a.n w0 _ ha.2) (fun v22 H22 r22 => ?_)
    obtain ⟨rfl, hs22⟩ := r22
    replace va := va.nw hs22
    replace vb := vb.nw hs22
    replace hm0 := hm0.tr hs22
    have hz4 := hs22.size
    have hq22 := hqn19.tr hs22
    refine ⟨.inr hq22, LH.narrow (SH2 := fun Hq => Nw H22 Hq) (fun Hq hq => hq22.tr hq) ?_⟩
    have hqn22 := Nw.refl H22
    refine LH.take 6 (by kernel_rfl) rfl (by kernel_rfl) (by kernel_rfl) (by kernel_rfl) (fun Hq hq => Y.seql rfl rfl rfl) (Wd.u rfl) rfl rfl hqn22 ?_
    refine LH.one (i := 9) (by kernel_rfl) ?_
    -- call selvage/selvageref16.Last
    refine LO.call rfl rfl Try.call38 rfl (Wd.u rfl) rfl rfl (rlast_ct b.o w0 _ hb.1) (fun v26 H26 r26 => ?_)
    obtain ⟨rfl, hs26⟩ := r26
    replace va := va.nw hs26
    replace vb := vb.nw hs26
    replace hm0 := hm0.tr hs26
    have hz5 := hs26.size
    have hq26 := hqn22.tr hs26
    refine ⟨.inr hq26, LH.narrow (SH2 := fun Hq => Nw H26 Hq) (fun Hq hq => hq26.tr hq) ?_⟩
    have hqn26 := Nw.refl H26
    refine LH.one (i := 12) (by kernel_rfl) ?_
    -- call selvage/selvageref16.Last
    refine LO.call rfl rfl Try.call38 rfl (Wd.u rfl) rfl rfl (rlast_ct b.n w0 _ hb.2) (fun v29 H29 r29 => ?_)
    obtain ⟨rfl, hs29⟩ := r29
    replace va := va.nw hs29
    replace vb := vb.nw hs29
    replace hm0 := hm0.tr hs29
    have hz6 := hs29.size
    have hq29 := hqn26.tr hs29
    refine ⟨.inr hq29, LH.narrow (SH2 := fun Hq => Nw H29 Hq) (fun Hq hq => hq29.tr hq) ?_⟩
    have hqn29 := Nw.refl H29
    refine LH.take 13 (by kernel_rfl) rfl (by kernel_rfl) (by kernel_rfl) (by kernel_rfl) (fun Hq hq => Y.seql rfl rfl rfl) (Wd.u rfl) rfl rfl hqn29 ?_
    refine LH.take 14 (by kernel_rfl) rfl (by kernel_rfl) (by kernel_rfl) (by kernel_rfl) (fun Hq hq => Y.assign rfl rfl) (Wd.u rfl) rfl rfl hqn29 ?_
    refine LH.take 15 (by kernel_rfl) rfl (by kernel_rfl) (by kernel_rfl) (by kernel_rfl) (fun Hq hq => Y.assign rfl rfl) (Wd.u rfl) rfl rfl hqn29 ?_
    refine LH.done (by kernel_rfl) ?_
    have hqe := hqn29
    refine hK5 _ _ ?_
    refine CW.seq (fun K6 hK6 hE6 => ?_)
    refine CW.seq (fun K7 hK7 hE7 => ?_)
    refine CW.region ?_
    refine LR.v (Y.move rfl rfl) (Wd.u rfl) rfl rfl ?_
    refine LR.v (Y.move rfl rfl) (Wd.u rfl) rfl rfl ?_
    refine LR.v (Y.bneq rfl Try.underlying4 rfl rfl) (Wd.u rfl) rfl rfl ?_
    refine LR.nil ?_
    refine hK7 _ _ ?_
    refine CW.condp rfl (fun c33 => ?_) (fun c33 => ?_)
    ·
      refine CW.seq (fun K8 hK8 hE8 => ?_)
      refine CW.region ?_
      refine LR.v (Y.move rfl rfl) (Wd.u rfl) rfl rfl ?_
      refine LR.v (Y.assign rfl rfl) (Wd.u rfl) rfl rfl ?_
      refine LR.nil ?_
      refine hK8 _ _ ?_
      refine CW.ret (hE6 .ret nofun _ _ (hret .ret (.inr rfl) _ _ _ (res1 rfl rfl) ?_))
      exact ⟨by simp [ahead, *], hm0⟩
    ·
      refine CW.skip ?_
      refine hK6 _ _ ?_
      refine CW.seq (fun K9 hK9 hE9 => ?_)
      refine CW.seq (fun K10 hK10 hE10 => ?_)
      refine CW.region ?_
      refine LR.v (Y.fieldAddr va.pt rfl Try.runUnderlying38 rfl rfl Try.sizeOf9 (by decide) rfl) (Wd.u rfl) rfl rfl ?_
      refine LR.v (Y.load1 va.pt rfl Try.isAgg9 rfl) (Wd.u rfl) rfl rfl ?_
      refine LR.v (Y.fieldAddr vb.pt rfl Try.runUnderlying38 rfl rfl Try.sizeOf9 (by decide) rfl) (Wd.u rfl) rfl rfl ?_
      refine LR.v (Y.load1 vb.pt rfl Try.isAgg9 rfl) (Wd.u rfl) rfl rfl ?_
      refine LR.v (Y.sneq rfl rfl rfl) (Wd.u rfl) rfl rfl ?_
      refine LR.nil ?_
      refine hK10 _ _ ?_
      refine CW.condp rfl (fun c39 => ?_) (fun c39 => ?_)
      ·
        refine CW.seq (fun K11 hK11 hE11 => ?_)
        refine CW.region ?_
        refine LR.v (Y.fieldAddr va.pt rfl Try.runUnderlying38 rfl rfl Try.sizeOf9 (by decide) rfl) (Wd.u rfl) rfl rfl ?_
        refine LR.v (Y.load1 va.pt rfl Try.isAgg9 rfl) (Wd.u rfl) rfl rfl ?_
        refine LR.v (Y.fieldAddr vb.pt rfl Try.runUnderlying38 rfl rfl Try.sizeOf9 (by decide) rfl) (Wd.u rfl) rfl rfl ?_
        refine LR.v (Y.load1 vb.pt rfl Try.isAgg9 rfl) (Wd.u rfl) rfl rfl ?_
        refine LR.v (Y.slss rfl rfl rfl) (Wd.u rfl) rfl rfl ?_
        refine LR.v (Y.assign rfl rfl) (Wd.u rfl) rfl rfl ?_
        refine LR.nil ?_
        refine hK11 _ _ ?_
        refine CW.ret (hE9 .ret nofun _ _ (hret .ret (.inr rfl) _ _ _ (res1 rfl rfl) ?_))
        exact ⟨by simp [ahead, *], hm0⟩
      ·
        refine CW.skip ?_
        refine hK9 _ _ ?_
        refine CW.seq (fun K12 hK12 hE12 => ?_)
        refine CW.region ?_
        refine LR.v (Y.fieldAddr va.pt rfl Try.runUnderlying38 rfl rfl Try.sizeOf9 (by decide) rfl) (Wd.u rfl) rfl rfl ?_
        refine LR.v (Y.load1 (va.pt.drop 1) rfl Try.isAgg9 rfl) (Wd.u rfl) rfl rfl ?_
        refine LR.v (Y.fieldAddr vb.pt rfl Try.runUnderlying38 rfl rfl Try.sizeOf9 (by decide) rfl) (Wd.u rfl) rfl rfl ?_
        refine LR.v (Y.load1 (vb.pt.drop 1) rfl Try.isAgg9 rfl) (Wd.u rfl) rfl rfl ?_
        refine LR.v (Y.slss rfl rfl rfl) (Wd.u rfl) rfl rfl ?_
        refine LR.v (Y.assign rfl rfl) (Wd.u rfl) rfl rfl ?_
        refine LR.nil ?_
        refine hK12 _ _ ?_
        refine CW.ret (hret .ret (.inr rfl) _ _ _ (res1 rfl rfl) ?_)
        exact ⟨by simp [ahead, *], hm0⟩

theorem order_ct (a b : Lk) (w0 : World) (H0 : Heap)
     :
    Ct Try.prog w0 33 #[.agg (fLk a).toArray, .agg (fLk b).toArray] H0 (fun r H2 => r = .int .i64 (lkCmp a b) ∧ Nw H0 H2) := by
  refine Ct.enter (args := [.agg (fLk a).toArray, .agg (fLk b).toArray]) Try.func33 rfl rfl rfl ?_
  intro Q0 hret
  have hm0 : Nw H0 H0 := Mo.refl _ _
  refine CW.seq (fun K1 hK1 hE1 => ?_)
  refine CW.region ?_
  refine LR.z (Z.boxv rfl rfl) (Wd.u rfl) rfl rfl (fun v2 H2 r2 => ?_)
  obtain ⟨rfl, va, hs2, ob2, hH2⟩ := r2
  have hzs2 : H2.size = H0.size + 1 := by rw [hH2]; simp
  have nx1 : Nx 0 H0.size (H0.size + 1) := Nx.new hm0.size
  replace hm0 := hm0.tr hs2
  have hz1 := hs2.size
  replace va : Var 61 H2 H0.size (fLk a) := va
  refine LR.z (Z.boxv rfl rfl) (Wd.u rfl) rfl rfl (fun v3 H3 r3 => ?_)
  obtain ⟨rfl, vb, hs3, ob3, hH3⟩ := r3
  have hzs3 : H3.size = H2.size + 1 := by rw [hH3]; simp
  have dj2 : Dj (H0.size + 1) (H2.size + 1) := Dj.new va.lt
  have nx3 : Nx 0 H0.size (H2.size + 1) := Nx.new hm0.size
  replace va := va.nw hs3
  replace hm0 := hm0.tr hs3
  have hz2 := hs3.size
  replace vb : Var 61 H3 H2.size (fLk b) := vb
  refine LR.v (Y.assign rfl rfl) (Wd.u rfl) rfl rfl ?_
  refine LR.nil ?_
  refine hK1 _ _ ?_
  refine CW.seq (fun K2 hK2 hE2 => ?_)
  refine CW.seq (fun K3 hK3 hE3 => ?_)
  refine CW.region ?_
  refine LR.v (Y.loadN va.pt rfl Try.isAgg61 Try.sizeOf61 (rfl) rfl) (Wd.u rfl) rfl rfl ?_
  refine LR.v (Y.loadN vb.pt rfl Try.isAgg61 Try.sizeOf61 (rfl) rfl) (Wd.u rfl) rfl rfl ?_
  refine LR.v (Y.aeql rfl Try.eqGuardType61 (fun w => eqLk a b 9997 w) rfl rfl) (Wd.u rfl) rfl rfl ?_
  refine LR.nil ?_
  refine hK3 _ _ ?_
  refine CW.condp rfl (fun c7 => ?_) (fun c7 => ?_)
  ·
    refine CW.seq (fun K4 hK4 hE4 => ?_)
    refine CW.region ?_
    refine LR.v (Y.assign rfl rfl) (Wd.u rfl) rfl rfl ?_
    refine LR.nil ?_
    refine hK4 _ _ ?_
    refine CW.ret (hE2 .ret nofun _ _ (hret .ret (.inr rfl) _ _ _ (res1 rfl rfl) ?_))
    exact ⟨by rw [lkCmp, if_pos (by assumption)], hm0⟩
  ·
    refine CW.skip ?_
    refine hK2 _ _ ?_
    refine CW.seq (fun K5 hK5 hE5 => ?_)
    refine CW.region_any (fun Hq => Nw H3 Hq) [] rfl ?_
    have hqs := Nw.refl H3
    refine LH.take 0 (by kernel_rfl) rfl (by kernel_rfl) (by kernel_rfl) (by kernel_rfl) (fun Hq hq => Y.fieldAddr (vb.pt.nw hq) rfl Try.runUnderlying61 rfl rfl Try.sizeOf38 (by decide) rfl) (Wd.u rfl) rfl rfl hqs ?_
    refine LH.take 1 (by kernel_rfl) rfl (by kernel_rfl) (by kernel_rfl) (by kernel_rfl) (fun Hq hq => Y.fieldAddr (vb.pt.nw hq) rfl Try.runUnderlying38 rfl rfl Try.sizeOf3 (by decide) rfl) (Wd.u rfl) rfl rfl hqs ?_
    refine LH.take 2 (by kernel_rfl) rfl (by kernel_rfl) (by kernel_rfl) (by kernel_rfl) (fun Hq hq => Y.load1 ((vb.pt.drop 2).nw hq) rfl Try.isAgg3 rfl) (Wd.u rfl) rfl rfl hqs ?_
    refine LH.take 3 (by kernel_rfl) rfl (by kernel_rfl) (by kernel_rfl) (by kernel_rfl) (fun Hq hq => Y.fieldAddr (va.pt.nw hq) rfl Try.runUnderlying61 rfl rfl Try.sizeOf38 (by decide) rfl) (Wd.u rfl) rfl rfl hqs ?_
    refine LH.take 4 (by kernel_rfl) rfl (by kernel_rfl) (by kernel_rfl) (by kernel_rfl) (fun Hq hq => Y.fieldAddr (va.pt.nw hq) rfl Try.runUnderlying38 rfl rfl Try.sizeOf3 (by decide) rfl) (Wd.u rfl) rfl rfl hqs ?_
    refine LH.take 5 (by kernel_rfl) rfl (by kernel_rfl) (by kernel_rfl) (by kernel_rfl) (fun Hq hq => Y.load1 ((va.pt.drop 2).nw hq) rfl Try.isAgg3 rfl) (Wd.u rfl) rfl rfl hqs ?_
    refine LH.take 7 (by kernel_rfl) rfl (by kernel_rfl) (by kernel_rfl) (by kernel_rfl) (fun Hq hq => Y.fieldAddr (va.pt.nw hq) rfl Try.runUnderlying61 rfl rfl Try.sizeOf3 (by decide) rfl) (Wd.u rfl) rfl rfl hqs ?_
    refine LH.take 8 (by kernel_rfl) rfl (by kernel_rfl) (by kernel_rfl) (by kernel_rfl) (fun Hq hq => Y.load1 ((va.pt.drop 3).nw hq) rfl Try.isAgg3 rfl) (Wd.u rfl) rfl rfl hqs ?_
    refine LH.take 9 (by kernel_rfl) rfl (by kernel_rfl) (by kernel_rfl) (by kernel_rfl) (fun Hq hq => Y.fieldAddr (vb.pt.nw hq) rfl Try.runUnderlying61 rfl rfl Try.sizeOf3 (by decide) rfl) (Wd.u rfl) rfl rfl hqs ?_
    refine LH.take 10 (by kernel_rfl) rfl (by kernel_rfl) (by kernel_rfl) (by kernel_rfl) (fun Hq hq => Y.load1 ((vb.pt.drop 3).nw hq) rfl Try.isAgg3 rfl) (Wd.u rfl) rfl rfl hqs ?_
    refine LH.take 12 (by kernel_rfl) rfl (by kernel_rfl) (by kernel_rfl) (by kernel_rfl) (fun Hq hq => Y.fieldAddr (va.pt.nw hq) rfl Try.runUnderlying61 rfl rfl Try.sizeOf38 (by decide) rfl) (Wd.u rfl) rfl rfl hqs ?_
    refine LH.take 13 (by kernel_rfl) rfl (by kernel_rfl) (by kernel_rfl) (by kernel_rfl) (fun Hq hq => Y.fieldAddr (va.pt.nw hq) rfl Try.runUnderlying38 rfl rfl Try.sizeOf9 (by decide) rfl) (Wd.u rfl) rfl rfl hqs ?_
    refine LH.take 14 (by kernel_rfl) rfl (by kernel_rfl) (by kernel_rfl) (by kernel_rfl) (fun Hq hq => Y.load1 (va.pt.nw hq) rfl Try.isAgg9 rfl) (Wd.u rfl) rfl rfl hqs ?_
    refine LH.take 15 (by kernel_rfl) rfl (by kernel_rfl) (by kernel_rfl) (by kernel_rfl) (fun Hq hq => Y.fieldAddr (vb.pt.nw hq) rfl Try.runUnderlying61 rfl rfl Try.sizeOf38 (by decide) rfl) (Wd.u rfl) rfl rfl hqs ?_
    refine LH.take 16 (by kernel_rfl) rfl (by kernel_rfl) (by kernel_rfl) (by kernel_rfl) (fun Hq hq => Y.fieldAddr (vb.pt.nw hq) rfl Try.runUnderlying38 rfl rfl Try.sizeOf9 (by decide) rfl) (Wd.u rfl) rfl rfl hqs ?_
    refine LH.take 17 (by kernel_rfl) rfl (by kernel_rfl) (by kernel_rfl) (by kernel_rfl) (fun Hq hq => Y.load1 (vb.pt.nw hq) rfl Try.isAgg9 rfl) (Wd.u rfl) rfl rfl hqs ?_
    refine LH.take 19 (by kernel_rfl) rfl (by kernel_rfl) (by kernel_rfl) (by kernel_rfl) (fun Hq hq => Y.fieldAddr (va.pt.nw hq) rfl Try.runUnderlying61 rfl rfl Try.sizeOf38 (by decide) rfl) (Wd.u rfl) rfl rfl hqs ?_
    refine LH.take 20 (by kernel_rfl) rfl (by kernel_rfl) (by kernel_rfl) (by kernel_rfl) (fun Hq hq => Y.fieldAddr (va.pt.nw hq) rfl Try.runUnderlying38 rfl rfl Try.sizeOf9 (by decide) rfl) (Wd.u rfl) rfl rfl hqs ?_
    refine LH.take 21 (by kernel_rfl) rfl (by kernel_rfl) (by kernel_rfl) (by kernel_rfl) (fun Hq hq => Y.load1 ((va.pt.drop 1).nw hq) rfl Try.isAgg9 rfl) (Wd.u rfl) rfl rfl hqs ?_
    refine LH.take 22 (by kernel_rfl) rfl (by kernel_rfl) (by kernel_rfl) (by kernel_rfl) (fun Hq hq => Y.fieldAddr (vb.pt.nw hq) rfl Try.runUnderlying61 rfl rfl Try.sizeOf38 (by decide) rfl) (Wd.u rfl) rfl rfl hqs ?_
    refine LH.take 23 (by kernel_rfl) rfl (by kernel_rfl) (by kernel_rfl) (by kernel_rfl) (fun Hq hq => Y.fieldAddr (vb.pt.nw hq) rfl Try.runUnderlying38 rfl rfl Try.sizeOf9 (by decide) rfl) (Wd.u rfl) rfl rfl hqs ?_
    refine LH.take 24 (by kernel_rfl) rfl (by kernel_rfl) (by kernel_rfl) (by kernel_rfl) (fun Hq hq => Y.load1 ((vb.pt.drop 1).nw hq) rfl Try.isAgg9 rfl) (Wd.u rfl) rfl rfl hqs ?_
    refine LH.one (i := 6) (by kernel_rfl) ?_
    -- call cmp.Compare[int]
    refine LO.call rfl rfl Try.call49 rfl (Wd.u rfl) rfl rfl (cmpI_ct b.p.s a.p.s w0 _) (fun v14 H14 r14 => ?_)
    obtain ⟨rfl, hs14⟩ := r14
    replace va := va.nw hs14
    replace vb := vb.nw hs14
    replace hm0 := hm0.tr hs14
    have hz3 := hs14.size
    have hq14 := hqs.tr hs14
    refine ⟨.inr hq14, LH.narrow (SH2 := fun Hq => Nw H14 Hq) (fun Hq hq => hq14.tr hq) ?_⟩
    have hqn14 := Nw.refl H14
    refine LH.one (i := 11) (by kernel_rfl) ?_
    -- call cmp.Compare[int]
    refine LO.call rfl rfl Try.call49 rfl (Wd.u rfl) rfl rfl (cmpI_ct a.r b.r w0 _) (fun v19 H19 r19 => ?_)
    obtain ⟨rfl, hs19⟩ := r19
    replace va := va.nw hs19
    replace vb := vb.nw hs19
    replace hm0 := hm0.tr hs19
    have hz4 := hs19.size
    have hq19 := hqn14.tr hs19
    refine ⟨.inr hq19, LH.narrow (SH2 := fun Hq => Nw H19 Hq) (fun Hq hq => hq19.tr hq) ?_⟩
    have hqn19 := Nw.refl H19
    refine LH.one (i := 18) (by kernel_rfl) ?_
    -- call cmp.Compare[string]
    refine LO.call rfl rfl Try.call36 rfl (Wd.u rfl) rfl rfl (cmpS_ct a.p.o b.p.o w0 _) (fun v26 H26 r26 => ?_)
    obtain ⟨rfl, hs26⟩ := r26
    replace va := va.nw hs26
    replace vb := vb.nw hs26
    replace hm0 := hm0.tr hs26
    have hz5 := hs26.size
    have hq26 := hqn19.tr hs26
    refine ⟨.inr hq26, LH.narrow (SH2 := fun Hq => Nw H26 Hq) (fun Hq hq => hq26.tr hq) ?_⟩
    have hqn26 := Nw.refl H26
    refine LH.one (i := 25) (by kernel_rfl) ?_
    -- call cmp.Compare[string]
    refine LO.call rfl rfl Try.call36 rfl (Wd.u rfl) rfl rfl (cmpS_ct a.p.n b.p.n w0 _) (fun v33 H33 r33 => ?_)
    obtain ⟨rfl, hs33⟩ := r33
    replace va := va.nw hs33
    replace vb := vb.nw hs33
    replace hm0 := hm0.tr hs33
    have hz6 := hs33.size
    have hq33 := hqn26.tr hs33
    refine ⟨.inr hq33, LH.narrow (SH2 := fun Hq => Nw H33 Hq) (fun Hq hq => hq33.tr hq) ?_⟩
    have hqn33 := Nw.refl H33
    refine LH.one (i := 26) (by kernel_rfl) ?_
    refine LO.z rfl (Z.litw _ ([cmpI b.p.s a.p.s, cmpI a.r b.r, cmpS a.p.o b.p.o, cmpS a.p.n b.p.n]) rfl inf39 rfl rfl rfl (by decide) (by decide) fI_len fI_one (rfl)) (Wd.u rfl) rfl rfl (fun v34 H34 r34 => ?_)
    obtain ⟨nw, hs34, ob34, hH34⟩ := r34
    have hzs34 : H34.size = H33.size + 1 := by rw [hH34]; simp
    have dj4 : Dj (H0.size + 1) (H33.size + 1) := Dj.new va.lt
    have dj5 : Dj (H2.size + 1) (H33.size + 1) := Dj.new vb.lt
    have nx6 : Nx 0 H0.size (H33.size + 1) := Nx.new hm0.size
    replace va := va.nw hs34
    replace vb := vb.nw hs34
    replace hm0 := hm0.tr hs34
    have hz7 := hs34.size
    have hq34 := hqn33.tr hs34
    refine ⟨.inr hq34, LH.narrow (SH2 := fun Hq => Nw H34 Hq) (fun Hq hq => hq34.tr hq) ?_⟩
    have hqn34 := Nw.refl H34
    refine LH.one (i := 27) (by kernel_rfl) ?_
    -- call cmp.Or[int]
    refine LO.call rfl rfl Try.call48 rfl (Wd.u rfl) rfl rfl (or_ct _ _ w0 _ nw.rd.any) (fun v35 H35 r35 => ?_)
    obtain ⟨rfl, hs35⟩ := r35
    replace va := va.nw hs35
    replace vb := vb.nw hs35
    replace nw := nw.nw hs35
    replace hm0 := hm0.tr hs35
    have hz8 := hs35.size
    have hq35 := hqn34.tr hs35
    refine ⟨.inr hq35, LH.narrow (SH2 := fun Hq => Nw H35 Hq) (fun Hq hq => hq35.tr hq) ?_⟩
    have hqn35 := Nw.refl H35
    refine LH.take 28 (by kernel_rfl) rfl (by kernel_rfl) (by kernel_rfl) (by kernel_rfl) (fun Hq hq => Y.assign rfl rfl) (Wd.u rfl) rfl rfl hqn35 ?_
    refine LH.done (by kernel_rfl) ?_
    have hqe := hqn35
    refine hK5 _ _ ?_
    refine CW.ret (hret .ret (.inr rfl) _ _ _ (res1 rfl rfl) ?_)
    exact ⟨by rw [lkCmp, if_neg (by assumption)], hm0⟩

end Go.Proofs.Ytclhnkmkejijjaa.RenB
