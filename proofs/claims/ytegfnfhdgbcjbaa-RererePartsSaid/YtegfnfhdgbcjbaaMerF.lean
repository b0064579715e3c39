/-
  Chunks are rendered.
-/
import Derived.Test.YtegfnfhdgbcjbaaMerE
namespace Go.Proofs.Ytegfnfhdgbcjbaa.MerF
open Go.Proofs.Ytegfnfhdgbcjbaa.E Go.RowKit Go.Proofs.Ytegfnfhdgbcjbaa.LinM Go.Proofs.Ytegfnfhdgbcjbaa.LinA Go.Proofs.Ytegfnfhdgbcjbaa.LinC Go.Proofs.Ytegfnfhdgbcjbaa.LinF Go.Proofs.Ytegfnfhdgbcjbaa.LinL Go.Proofs.Ytegfnfhdgbcjbaa.MerA Go.Proofs.Ytegfnfhdgbcjbaa.MerB Go.Proofs.Ytegfnfhdgbcjbaa.MerC Go.Proofs.Ytegfnfhdgbcjbaa.MerD Go.Proofs.Ytegfnfhdgbcjbaa.MerE
set_option linter.unusedVariables false
set_option linter.unusedSimpArgs false
set_option linter.unusedSectionVars false
set_option maxRecDepth 100000 in
theorem inf22 : Inf Try.prog 22 5 1 1 := ⟨Try.underlying22, _, _, rfl, rfl, rfl, rfl, rfl⟩
set_option maxRecDepth 100000 in
theorem inf32 : Inf Try.prog 32 9 1 16 := ⟨Try.underlying32, _, _, rfl, rfl, rfl, rfl, rfl⟩

/-- the marks, with their line feeds -/
def mkL : List (List UInt8) := [[60, 60, 60, 60, 60, 60, 60, 10], [124, 124, 124, 124, 124, 124, 124, 10], [61, 61, 61, 61, 61, 61, 61, 10], [62, 62, 62, 62, 62, 62, 62, 10]]
def mk (n : Nat) : List UInt8 := mkL.getD n []
/-- the last line with its line feed -/
def endL (f : List UInt8) : List UInt8 := if f.getLastD 10 = 10 then f else f ++ [10]
def rend1 (c : Cn) : List UInt8 :=
  if c.1 = 0 then c.2.1.flatten else if c.1 = 1 ∨ c.1 = 3 then c.2.2.1.flatten else if c.1 = 2 then c.2.2.2.flatten
  else if c.1 = 4 then mk 0 ++ endL c.2.2.1.flatten ++ mk 1 ++ endL c.2.1.flatten ++ mk 2 ++ endL c.2.2.2.flatten ++ mk 3 else []
/-- what chunks are rendered as -/
def rendL (cs : List Cn) : List UInt8 := (cs.map rend1).flatten
theorem last_app (p f : List UInt8) (h : ((p ++ [10]) ++ f).length - 1 < ((p ++ [10]) ++ f).length) : ((p ++ [10]) ++ f)[((p ++ [10]) ++ f).length - 1] = f.getLastD 10 := by
  rcases List.eq_nil_or_concat f with rfl | ⟨l0, y, rfl⟩
  · simp
  · simp only [List.concat_eq_append, ← List.append_assoc]
    rw [List.getElem_append_right (by simp)]
    simp
theorem last_one (f : List UInt8) (h : f.length - 1 < f.length) : f[f.length - 1] = f.getLastD 10 := by
  rcases List.eq_nil_or_concat f with rfl | ⟨l0, y, rfl⟩
  · simp at h
  · simp
theorem u8i {x : UInt8} {n : Nat} (hn : n < 256) : ((x.toNat : Nat) : Int) = n ↔ x = UInt8.ofNat n := by
  constructor
  · intro h
    apply UInt8.toNat.inj
    rw [UInt8.toNat_ofNat']
    omega
  · intro h
    subst h
    rw [UInt8.toNat_ofNat']
    omega
theorem endL_T {f : List UInt8} {x : UInt8} (h : x = f.getLastD 10) (c : ¬ ((x.toNat : Nat) : Int) = 10) : endL f = f ++ [10] := by
  unfold endL
  rw [if_neg (by rw [← h]; exact fun e => c (by rw [e]; rfl))]
theorem endL_F {f : List UInt8} {x : UInt8} (h : x = f.getLastD 10) (c : ((x.toNat : Nat) : Int) = 10) : endL f = f := by
  unfold endL
  rw [if_pos (by rw [← h]; exact (u8i (n := 10) (by decide)).1 c)]
theorem endL_le (f : List UInt8) : (endL f).length ≤ f.length + 1 := by unfold endL; split <;> simp
def BdC (c : Cn) : Prop := c.2.1.flatten.length ≤ 1048576 ∧ c.2.2.1.flatten.length ≤ 1048576 ∧ c.2.2.2.flatten.length ≤ 1048576
theorem rend1_le {c : Cn} (h : BdC c) : (rend1 c).length ≤ 4194304 := by
  obtain ⟨h1, h2, h3⟩ := h
  have e1 := endL_le c.2.1.flatten
  have e2 := endL_le c.2.2.1.flatten
  have e3 := endL_le c.2.2.2.flatten
  unfold rend1
  split
  · omega
  · split
    · omega
    · split
      · omega
      · split
        · simp only [List.length_append, mk, mkL, List.getD, List.getElem?_cons_zero, List.getElem?_cons_succ, Option.getD_some, List.length_cons, List.length_nil]; omega
        · simp
theorem rendL_snoc (cs : List Cn) (j : Nat) (h : j < cs.length) : rendL (cs.take (j + 1)) = rendL (cs.take j) ++ rend1 cs[j] := by
  unfold rendL
  rw [List.take_succ_eq_append_getElem h, List.map_append, List.flatten_append]
  simp
theorem rendL_le : ∀ (cs : List Cn), (∀ c ∈ cs, BdC c) → (rendL cs).length ≤ cs.length * 4194304
  | [], _ => by simp [rendL]
  | c :: cs, h => by
    have h1 := rendL_le cs (fun x hx => h x (List.mem_cons_of_mem _ hx))
    have h2 := rend1_le (h c (List.mem_cons_self))
    unfold rendL at h1 ⊢
    rw [List.map_cons, List.flatten_cons, List.length_append, List.length_cons]
    omega
theorem mk_len (n : Nat) : (mk n).length ≤ 8 := by
  unfold mk mkL
  match n with
  | 0 => decide
  | 1 => decide
  | 2 => decide
  | 3 => decide
  | n + 4 => simp


theorem side_T {p f : List UInt8} {x : UInt8} {i : Nat} (hi : i = ((p ++ [10]) ++ f).length - 1) (hl : i < ((p ++ [10]) ++ f).length) (hx : ((p ++ [10]) ++ f)[i] = x) (c : ¬ ((x.toNat : Nat) : Int) = 10) : ((p ++ [10]) ++ f) ++ [10] = p ++ [10] ++ endL f := by
  subst hi
  rw [endL_T (x := x) (by rw [← hx]; exact last_app _ _ _) c]; simp
theorem side_F {p f : List UInt8} {x : UInt8} {i : Nat} (hi : i = ((p ++ [10]) ++ f).length - 1) (hl : i < ((p ++ [10]) ++ f).length) (hx : ((p ++ [10]) ++ f)[i] = x) (c : ((x.toNat : Nat) : Int) = 10) : ((p ++ [10]) ++ f) = p ++ [10] ++ endL f := by
  subst hi
  rw [endL_F (x := x) (by rw [← hx]; exact last_app _ _ _) c]


theorem rendK (l : List Ck) (j : Nat) (h : j < l.length) : rendL ((l.map Ck.c).take (j + 1)) = rendL ((l.map Ck.c).take j) ++ rend1 l[j].c := by
  rw [rendL_snoc _ _ (by simpa using h)]; simp
theorem rendK_le (l : List Ck) (j : Nat) (h : ∀ x ∈ l, BdC x.c) (hl : l.length ≤ 1048576) : (rendL ((l.map Ck.c).take j)).length ≤ 4398046511104 := by
  have h1 := rendL_le ((l.map Ck.c).take j) (fun c hc => by
    obtain ⟨x, hx, rfl⟩ := List.mem_map.1 (List.mem_of_mem_take hc)
    exact h x hx)
  have h2 : ((l.map Ck.c).take j).length ≤ l.length := by simp; omega
  omega
theorem r1_0 {c : Cn} (h : c.1 = 0) : rend1 c = c.2.1.flatten := by rw [rend1, if_pos h]
theorem r1_1 {c : Cn} (h : c.1 = 1 ∨ c.1 = 3) : rend1 c = c.2.2.1.flatten := by rw [rend1, if_neg (by omega), if_pos h]
theorem r1_2 {c : Cn} (h : c.1 = 2) : rend1 c = c.2.2.2.flatten := by rw [rend1, if_neg (by omega), if_neg (by omega), if_pos h]
theorem r1_4 {c : Cn} (h : c.1 = 4) : rend1 c = mk 0 ++ endL c.2.2.1.flatten ++ mk 1 ++ endL c.2.1.flatten ++ mk 2 ++ endL c.2.2.2.flatten ++ mk 3 := by rw [rend1, if_neg (by omega), if_neg (by omega), if_neg (by omega), if_pos h]
theorem r1_x {c : Cn} (h0 : ¬ c.1 = 0) (h1 : ¬ c.1 = 1) (h2 : ¬ c.1 = 2) (h3 : ¬ c.1 = 3) (h4 : ¬ c.1 = 4) : rend1 c = [] := by rw [rend1, if_neg (by omega), if_neg (by omega), if_neg (by omega), if_neg (by omega)]
/-- the marks without their line feeds -/
abbrev mw0 : List UInt8 := [60, 60, 60, 60, 60, 60, 60]
abbrev mw1 : List UInt8 := [124, 124, 124, 124, 124, 124, 124]
abbrev mw2 : List UInt8 := [61, 61, 61, 61, 61, 61, 61]
abbrev mw3 : List UInt8 := [62, 62, 62, 62, 62, 62, 62]
theorem side_all (X : List UInt8) (c : Cn) : X ++ mw0 ++ [10] ++ endL c.2.2.1.flatten ++ mw1 ++ [10] ++ endL c.2.1.flatten ++ mw2 ++ [10] ++ endL c.2.2.2.flatten ++ mw3 ++ [10] ++ endL ([] : List (List UInt8)).flatten = X ++ (mk 0 ++ endL c.2.2.1.flatten ++ mk 1 ++ endL c.2.1.flatten ++ mk 2 ++ endL c.2.2.2.flatten ++ mk 3) := by
  simp [mk, mkL, endL, mw0, mw1, mw2, mw3]

theorem mark_ct (n : Nat) (w0 : World) (H0 : Heap)
    (hn : n < 4) :
    Ct Try.prog w0 52 #[.int .i64 n] H0 (fun r H2 => r = Str (mk n) ∧ Nw H0 H2) := by
  refine Ct.enter (args := [.int .i64 n]) Try.func52 rfl rfl rfl ?_
  intro Q0 hret
  have hm0 : Nw H0 H0 := Mo.refl _ _
  refine CW.seq (fun K1 hK1 hE1 => ?_)
  refine CW.region ?_
  refine LR.v (Y.assign rfl rfl) (Wd.u rfl) rfl rfl ?_
  refine LR.nil ?_
  refine hK1 _ _ ?_
  refine CW.seq (fun K2 hK2 hE2 => ?_)
  refine CW.region ?_
  refine LR.z (Z.litw _ (mkL) rfl inf32 rfl rfl rfl (by decide) (by decide) fS_len fS_one (rfl)) (Wd.u rfl) rfl rfl (fun v3 H3 r3 => ?_)
  obtain ⟨ow3, hs3, ob3, hH3⟩ := r3
  have hzs3 : H3.size = H0.size + 1 := by rw [hH3]; simp
  have nx1 : Nx 0 H0.size (H0.size + 1) := Nx.new hm0.size
  replace hm0 := hm0.tr hs3
  have hz1 := hs3.size
  refine LR.v (Y.move rfl rfl) (Wd.u rfl) rfl rfl ?_
  refine LR.v (Y.owAddr ow3 (n) rfl Try.runUnderlying32 Try.sizeOf9 rfl rfl (by first | rfl | omega) (by show n < 4; omega)) (Wd.u rfl) rfl rfl ?_
  refine LR.v (Y.load1 (ow3.pt (j := n) (by show n < 4; omega)) rfl Try.isAgg9 rfl) (Wd.u rfl) rfl rfl ?_
  refine LR.v (Y.assign rfl rfl) (Wd.u rfl) rfl rfl ?_
  refine LR.nil ?_
  refine hK2 _ _ ?_
  refine CW.ret (hret .ret (.inr rfl) _ _ _ (res1 rfl rfl) ?_)
  exact ⟨by simp [mk, List.getD, show n < mkL.length from hn], hm0⟩


theorem mk_eq : mk 0 = mw0 ++ [10] ∧ mk 1 = mw1 ++ [10] ∧ mk 2 = mw2 ++ [10] ∧ mk 3 = mw3 ++ [10] := ⟨rfl, rfl, rfl, rfl⟩

theorem ended_ct (v : Value) (l : List (List UInt8)) (w0 : World) (H0 : Heap)
    (hl : RdT H0 fS 1 v l) (hfl : l.flatten.length ≤ 1048576) :
    Ct Try.prog w0 53 #[v] H0 (fun r H2 => ∃ v2 : Value, ∃ k2 : Nat, r = v2 ∧ (Ow k2 5 H2 fB 1 v2 (endL l.flatten)) ∧ (Nx 0 H0.size k2) ∧ Nw H0 H2) := by
  refine Ct.enter (args := [v]) Try.func53 rfl rfl rfl ?_
  intro Q0 hret
  have hm0 : Nw H0 H0 := Mo.refl _ _
  replace hl := hl.bnd
  have bf_hl := Rd.bf hl
  refine CW.seq (fun K1 hK1 hE1 => ?_)
  refine CW.region ?_
  refine LR.v (Y.assign rfl rfl) (Wd.u rfl) rfl rfl ?_
  refine LR.nil ?_
  refine hK1 _ _ ?_
  refine CW.seq (fun K2 hK2 hE2 => ?_)
  refine CW.region ?_
  refine LR.v (Y.move rfl rfl) (Wd.u rfl) rfl rfl ?_
  -- call selvage/selvageref12.Join
  refine LR.call rfl Try.call12 rfl (Wd.u rfl) rfl rfl (rjoin3 _ l w0 _ hl.any (by omega)) (fun v5 H5 r5 => ?_)
  obtain ⟨v5, k5, rfl, ow, hk5, hs5⟩ := r5
  have df1 := DF.app (DF.z) (bf_hl.mono hm0.size) hk5
  have nx2 : Nx 0 H0.size k5 := Nx.tr (Nx.refl 0 _) hk5 hm0.size
  replace hl := hl.nw hs5
  replace hm0 := hm0.tr hs5
  have hz1 := hs5.size
  have hle_ow := ow.le
  refine LR.v (Y.assign rfl rfl) (Wd.u rfl) rfl rfl ?_
  refine LR.nil ?_
  refine hK2 _ _ ?_
  refine CW.seq (fun K3 hK3 hE3 => ?_)
  refine CW.seq (fun K4 hK4 hE4 => ?_)
  refine CW.region ?_
  refine LR.v (Y.move rfl rfl) (Wd.u rfl) rfl rfl ?_
  refine LR.v (Y.len ow.rd rfl Try.runUnderlying22 rfl) (Wd.u rfl) rfl rfl ?_
  refine LR.v (Y.gtr rfl rfl rfl) (Wd.u rfl) rfl rfl ?_
  refine LR.v (Y.move rfl rfl) (Wd.u rfl) rfl rfl ?_
  refine LR.splitp (d := 9) rfl (fun g9 => ?_) (fun g9 => ?_)
  ·
    refine LR.v (Y.move rfl rfl) (Wd.g rfl rfl rfl) rfl rfl ?_
    refine LR.v (Y.move rfl rfl) (Wd.g rfl rfl rfl) rfl rfl ?_
    refine LR.v (Y.len ow.rd rfl Try.runUnderlying22 rfl) (Wd.g rfl rfl rfl) rfl rfl ?_
    refine LR.v (Y.subi rfl rfl rfl (by omega)) (Wd.g rfl rfl rfl) rfl rfl ?_
    refine LR.v (Y.owAddr ow (l.flatten.length - 1) rfl Try.runUnderlying22 Try.sizeOf5 rfl rfl (by first | rfl | omega) (by omega)) (Wd.g rfl rfl rfl) rfl rfl ?_
    refine LR.v (Y.load1 (ow.pt (j := l.flatten.length - 1) (by omega)) rfl Try.isAgg5 rfl) (Wd.g rfl rfl rfl) rfl rfl ?_
    refine LR.v (Y.neq rfl rfl rfl) (Wd.g rfl rfl rfl) rfl rfl ?_
    refine LR.v (Y.pick_t rfl rfl rfl) (Wd.u rfl) rfl rfl ?_
    refine LR.nil ?_
    refine hK4 _ _ ?_
    refine CW.condp rfl (fun c17 => ?_) (fun c17 => ?_)
    ·
      refine CW.region ?_
      refine LR.v (Y.move rfl rfl) (Wd.u rfl) rfl rfl ?_
      refine LR.z (Z.litw _ ([(10 : UInt8)]) rfl inf22 rfl rfl rfl (by decide) (by decide) fB_len fB_one (rfl)) (Wd.u rfl) rfl rfl (fun v19 H19 r19 => ?_)
      obtain ⟨ow19, hs19, ob19, hH19⟩ := r19
      have hzs19 : H19.size = H5.size + 1 := by rw [hH19]; simp
      have df3 := (DF.new (bf_hl.mono hm0.size) : DF _ (H5.size + 1))
      have dj4 : Dj k5 (H5.size + 1) := Dj.new ow.le
      have nx5 : Nx 0 H0.size (H5.size + 1) := Nx.new hm0.size
      replace hl := hl.nw hs19
      replace ow := ow.nw hs19
      replace hm0 := hm0.tr hs19
      have hz2 := hs19.size
      refine LR.z (Z.apnd ow ow19.rd rfl inf22 rfl rfl (by simp only [List.length_cons, List.length_nil]; omega) (by simp only [List.length_cons, List.length_nil]; omega)) (Wd.u rfl) rfl rfl (fun v20 H20 r20 => ?_)
      obtain ⟨k20, ow, hk20, hs20⟩ := r20
      replace hk20 : Nx k5 H19.size k20 := hk20
      replace hs20 := hs20.md
      have df6 := DF.app (df1) (bf_hl.mono hm0.size) hk20
      have dj7 : Dj (H5.size + 1) k20 := Dj.app (dj4.symm) ow19.le hk20
      have nx8 : Nx 0 H0.size k20 := Nx.tr (nx2) hk20 hm0.size
      replace hl := hl.upL hs20 (DFL.cons df1 DFL.nil)
      replace ow19 := ow19.upL hs20 (DL.cons dj4.symm DL.nil)
      replace hm0 := (Mo.trL (ks := []) (hm0.mdn []) hs20 (MIL.cons (MI.app MI.z (nx2) (Nat.le_refl _)) MIL.nil)).nil
      have hz3 := hs20.size
      have hle_ow := ow.le
      refine LR.v (Y.assign rfl rfl) (Wd.u rfl) rfl rfl ?_
      refine LR.nil ?_
      refine hK3 _ _ ?_
      refine CW.seq (fun K5 hK5 hE5 => ?_)
      refine CW.region ?_
      refine LR.v (Y.move rfl rfl) (Wd.u rfl) rfl rfl ?_
      refine LR.v (Y.assign rfl rfl) (Wd.u rfl) rfl rfl ?_
      refine LR.nil ?_
      refine hK5 _ _ ?_
      refine CW.ret (hret .ret (.inr rfl) _ _ _ (res1 rfl rfl) ?_)
      exact ⟨v20, k20, rfl, by rw [endL_T (last_one _ (by omega)) (by assumption)]; exact ow, nx8, hm0⟩
    ·
      refine CW.skip ?_
      refine hK3 _ _ ?_
      refine CW.seq (fun K6 hK6 hE6 => ?_)
      refine CW.region ?_
      refine LR.v (Y.move rfl rfl) (Wd.u rfl) rfl rfl ?_
      refine LR.v (Y.assign rfl rfl) (Wd.u rfl) rfl rfl ?_
      refine LR.nil ?_
      refine hK6 _ _ ?_
      refine CW.ret (hret .ret (.inr rfl) _ _ _ (res1 rfl rfl) ?_)
      exact ⟨v5, k5, rfl, by first | (rw [endL_F (last_one _ (by omega)) (by omega)]; exact ow) | (have h0 : l.flatten = [] := List.eq_nil_of_length_eq_zero (by omega); rw [h0] at ow ⊢; exact ow), nx2, hm0⟩
  ·
    refine LR.gs rfl rfl rfl rfl rfl rfl ?_
    refine LR.gs rfl rfl rfl rfl rfl rfl ?_
    refine LR.gs rfl rfl rfl rfl rfl rfl ?_
    refine LR.gs rfl rfl rfl rfl rfl rfl ?_
    refine LR.gs rfl rfl rfl rfl rfl rfl ?_
    refine LR.gs rfl rfl rfl rfl rfl rfl ?_
    refine LR.gs rfl rfl rfl rfl rfl rfl ?_
    refine LR.v (Y.pick_f rfl rfl rfl) (Wd.u rfl) rfl rfl ?_
    refine LR.nil ?_
    refine hK4 _ _ ?_
    refine CW.cond_f rfl ?_
    refine CW.skip ?_
    refine hK3 _ _ ?_
    refine CW.seq (fun K7 hK7 hE7 => ?_)
    refine CW.region ?_
    refine LR.v (Y.move rfl rfl) (Wd.u rfl) rfl rfl ?_
    refine LR.v (Y.assign rfl rfl) (Wd.u rfl) rfl rfl ?_
    refine LR.nil ?_
    refine hK7 _ _ ?_
    refine CW.ret (hret .ret (.inr rfl) _ _ _ (res1 rfl rfl) ?_)
    exact ⟨v5, k5, rfl, by first | (rw [endL_F (last_one _ (by omega)) (by omega)]; exact ow) | (have h0 : l.flatten = [] := List.eq_nil_of_length_eq_zero (by omega); rw [h0] at ow ⊢; exact ow), nx2, hm0⟩

set_option maxHeartbeats 4000000 in
theorem rrender_ct (v : Value) (l : List Ck) (w0 : World) (H0 : Heap)
    (hl : RdT H0 fK 4 v l) (hx : ∀ x ∈ l, CkR (fun _ => True) H0 x) (hbd : ∀ x ∈ l, BdC x.c) (hll : l.length ≤ 1048576) :
    Ct Try.prog w0 31 #[v] H0 (fun r H2 => ∃ v2 : Value, ∃ k2 : Nat, r = v2 ∧ (Ow k2 5 H2 fB 1 v2 (rendL (l.map Ck.c))) ∧ (Nx 0 H0.size k2) ∧ Nw H0 H2) := by
  refine Ct.enter (args := [v]) Try.func31 rfl rfl rfl ?_
  intro Q0 hret
  have hm0 : Nw H0 H0 := Mo.refl _ _
  replace hl := hl.bnd
  have bf_hl := Rd.bf hl
  replace hx := fun x hx_ => (hx x hx_).bnd
  have bf_hx : BF (fun b => True ∧ b < H0.size) H0.size := fun b h => h.2
  have hll2 := hl.len
  refine CW.seq (fun K1 hK1 hE1 => ?_)
  refine CW.region ?_
  refine LR.v (Y.assign rfl rfl) (Wd.u rfl) rfl rfl ?_
  refine LR.nil ?_
  refine hK1 _ _ ?_
  refine CW.seq (fun K2 hK2 hE2 => ?_)
  refine CW.region ?_
  refine LR.v (Y.assign rfl rfl) (Wd.u rfl) rfl rfl ?_
  refine LR.nil ?_
  refine hK2 _ _ ?_
  refine CW.seq (fun K3 hK3 hE3 => ?_)
  refine CW.seq (fun K4 hK4 hE4 => ?_)
  refine CW.region ?_
  refine LR.v (Y.assign rfl rfl) (Wd.u rfl) rfl rfl ?_
  refine LR.nil ?_
  refine hK4 _ _ ?_
  refine CW.block (fun K5 hK5 hX5 hE5 => ?_)
  refine CW.loop (fun (s_ : (Nat) × (Value) × (Nat)) => match s_ with | (j, vo, ko) => [(0, v), (3, vo), (4, .int .i64 j)])
    (fun (s_ : (Nat) × (Value) × (Nat)) (H : Heap) => match s_ with | (j, vo, ko) => (j ≤ l.length) ∧ (Ow ko 5 H fB 1 vo (rendL ((l.map Ck.c).take j))) ∧ (Nx 0 H0.size ko) ∧ Nw H0 H)
    (fun (s_ : (Nat) × (Value) × (Nat)) => match s_ with | (j, vo, ko) => l.length - j) (0, .slice none 0 0, 0) ⟨rfl, rfl, rfl, trivial⟩ ?_ ?_
  ·
    exact ⟨(by omega), Ow.nil fB_len fB_one, Nx.refl _ _, Mo.refl _ _⟩
  rintro ⟨j, vo, ko⟩ HL1 hI1 K6 hN6 hE6
  obtain ⟨hj, ow, nxl_ow, hlm1⟩ := hI1
  have df1 := DF.app (DF.z) (bf_hl.mono hm0.size) nxl_ow
  have df2 := DF.app (DF.z) (bf_hx.mono hm0.size) nxl_ow
  have nx3 : Nx 0 H0.size ko := Nx.tr (Nx.refl 0 _) nxl_ow hm0.size
  replace hl := hl.nw hlm1
  replace hx := fun x hx_ => (hx x hx_).nw hlm1
  replace hm0 := hm0.tr hlm1
  have hz1 := hlm1.size
  have hle_ow := ow.le
  have nx4 := nxl_ow
  have hrl := rendK_le l j hbd hll
  refine CW.seq (fun K7 hK7 hE7 => ?_)
  refine CW.seq (fun K8 hK8 hE8 => ?_)
  refine CW.region ?_
  refine LR.v (Y.move rfl rfl) (Wd.u rfl) rfl rfl ?_
  refine LR.v (Y.move rfl rfl) (Wd.u rfl) rfl rfl ?_
  refine LR.v (Y.len hl rfl Try.runUnderlying50 rfl) (Wd.u rfl) rfl rfl ?_
  refine LR.v (Y.lss rfl rfl rfl) (Wd.u rfl) rfl rfl ?_
  refine LR.nil ?_
  refine hK8 _ _ ?_
  refine CW.condp rfl (fun c8 => ?_) (fun c8 => ?_)
  ·
    refine CW.skip ?_
    refine hK7 _ _ ?_
    refine CW.seq (fun K9 hK9 hE9 => ?_)
    refine CW.block (fun K10 hK10 hX10 hE10 => ?_)
    refine CW.seq (fun K11 hK11 hE11 => ?_)
    refine CW.region ?_
    refine LR.v (Y.move rfl rfl) (Wd.u rfl) rfl rfl ?_
    refine LR.v (Y.move rfl rfl) (Wd.u rfl) rfl rfl ?_
    have hjl : j < l.length := by omega
    obtain ⟨hb1, hb2, hb3⟩ := hbd _ (List.getElem_mem hjl)
    refine LR.e (g := fun ad => .pointer (some ad)) (Y.indexAddrF hl (j) rfl Try.runUnderlying50 Try.sizeOf54 rfl rfl (by first | rfl | omega) (by first | omega | (simp; omega) | (simp; done))) (Wd.u rfl) rfl rfl (fun ad13 pt13 => ?_)
    have bf_pt13 := bf_hl
    refine LR.v (Y.fieldAddr pt13.pt rfl Try.runUnderlying54 rfl rfl Try.sizeOf3 (by decide) rfl) (Wd.u rfl) rfl rfl ?_
    refine LR.v (Y.cast (v2 := .int .i64 l[j].c.1) (Y.load1 (pt13.pt.drop 0) rfl Try.isAgg3 rfl) (rfl)) (Wd.u rfl) rfl rfl ?_
    refine LR.nil ?_
    refine hK11 _ _ ?_
    refine CW.block (fun K12 hK12 hX12 hE12 => ?_)
    refine CW.seq (fun K13 hK13 hE13 => ?_)
    refine CW.region ?_
    refine LR.v (Y.eql rfl rfl rfl) (Wd.u rfl) rfl rfl ?_
    refine LR.v (Y.assign rfl rfl) (Wd.u rfl) rfl rfl ?_
    refine LR.nil ?_
    refine hK13 _ _ ?_
    refine CW.condp rfl (fun c16 => ?_) (fun c16 => ?_)
    ·
      refine CW.region ?_
      refine LR.v (Y.move rfl rfl) (Wd.u rfl) rfl rfl ?_
      refine LR.v (Y.move rfl rfl) (Wd.u rfl) rfl rfl ?_
      refine LR.v (Y.move rfl rfl) (Wd.u rfl) rfl rfl ?_
      refine LR.e (g := fun ad => .pointer (some ad)) (Y.indexAddrF hl (j) rfl Try.runUnderlying50 Try.sizeOf54 rfl rfl (by first | rfl | omega) (by first | omega | (simp; omega) | (simp; done))) (Wd.u rfl) rfl rfl (fun ad21 pt21 => ?_)
      have bf_pt21 := bf_hl
      refine LR.v (Y.fieldAddr pt21.pt rfl Try.runUnderlying54 rfl rfl Try.sizeOf32 (by decide) rfl) (Wd.u rfl) rfl rfl ?_
      refine LR.v (Y.load1 (pt21.pt.drop 1) rfl Try.isAgg32 rfl) (Wd.u rfl) rfl rfl ?_
      -- call selvage/selvageref12.Join
      refine LR.call rfl Try.call12 rfl (Wd.u rfl) rfl rfl (rjoin3 _ l[j].b w0 _ (hx l[j] (List.getElem_mem hjl)).b.any (by first | exact Nat.le_trans hb1 (by decide) | exact Nat.le_trans hb2 (by decide) | exact Nat.le_trans hb3 (by decide))) (fun v24 H24 r24 => ?_)
      obtain ⟨v24, k24, rfl, oj24, hk24, hs24⟩ := r24
      have df5 := DF.app (DF.z) (bf_hl.mono hm0.size) hk24
      have df6 := DF.app (DF.z) (bf_hx.mono hm0.size) hk24
      have dj7 : Dj ko k24 := Dj.app (Dj.z) ow.le hk24
      have df8 := DF.app (DF.z) (bf_pt21.mono hm0.size) hk24
      have nx9 : Nx 0 H0.size k24 := Nx.tr (Nx.refl 0 _) hk24 hm0.size
      have nx10 : Nx 0 H0.size k24 := Nx.tr (Nx.refl 0 _) hk24 hlm1.size
      replace hl := hl.nw hs24
      replace hx := fun x hx_ => (hx x hx_).nw hs24
      replace ow := ow.nw hs24
      replace pt21 := pt21.nw hs24
      replace hm0 := hm0.tr hs24
      replace hlm1 := hlm1.tr hs24
      have hz2 := hs24.size
      have hle_oj24 := oj24.le
      refine LR.z (Z.apnd ow oj24.rd rfl inf22 rfl rfl (by have h1 := hb1; have h2 := hb2; have h3 := hb3; simp only at h1 h2 h3; omega) (by have h1 := hb1; have h2 := hb2; have h3 := hb3; simp only at h1 h2 h3; omega)) (Wd.u rfl) rfl rfl (fun v25 H25 r25 => ?_)
      obtain ⟨k25, ow, hk25, hs25⟩ := r25
      replace hk25 : Nx ko H24.size k25 := hk25
      replace hs25 := hs25.md
      have df11 := DF.app (df1) (bf_hl.mono hm0.size) hk25
      have df12 := DF.app (df2) (bf_hx.mono hm0.size) hk25
      have df13 := DF.app (df1) (bf_pt21.mono hm0.size) hk25
      have dj14 : Dj k24 k25 := Dj.app (dj7.symm) oj24.le hk25
      have nx15 : Nx 0 H0.size k25 := Nx.tr (nx3) hk25 hm0.size
      have nx16 : Nx 0 H0.size k25 := Nx.tr (nx4) hk25 hlm1.size
      replace hl := hl.upL hs25 (DFL.cons df1 DFL.nil)
      replace hx := fun x hx_ => (hx x hx_).upL hs25 (DFL.cons df2 DFL.nil)
      replace pt21 := pt21.upL hs25 (DFL.cons df1 DFL.nil)
      replace oj24 := oj24.upL hs25 (DL.cons dj7.symm DL.nil)
      replace hm0 := (Mo.trL (ks := []) (hm0.mdn []) hs25 (MIL.cons (MI.app MI.z (nx3) (Nat.le_refl _)) MIL.nil)).nil
      replace hlm1 := (Mo.trL (ks := []) (hlm1.mdn []) hs25 (MIL.cons (MI.app MI.z (nx4) (Nat.le_refl _)) MIL.nil)).nil
      have hz3 := hs25.size
      have hle_ow := ow.le
      refine LR.v (Y.assign rfl rfl) (Wd.u rfl) rfl rfl ?_
      refine LR.nil ?_
      refine hK12 _ _ ?_
      refine hK10 _ _ ?_
      refine hK9 _ _ ?_
      refine CW.region ?_
      refine LR.v (Y.move rfl rfl) (Wd.u rfl) rfl rfl ?_
      refine LR.v (Y.addi rfl rfl rfl (by omega)) (Wd.u rfl) rfl rfl ?_
      refine LR.v (Y.assign rfl rfl) (Wd.u rfl) rfl rfl ?_
      refine LR.nil ?_
      have hrk := rendK l j hjl
      refine QN.sub (hN6 (j + 1, v25, k25) _ ?_ ?_) ⟨rfl, rfl, (iv (by omega)), trivial⟩
      · exact ⟨(by omega), by rw [hrk, r1_0 (by omega)]; exact ow, nx16, hlm1⟩
      · first | omega | (simp only; omega) | (simp; omega)
    ·
      refine CW.seq (fun K14 hK14 hE14 => ?_)
      refine CW.seq (fun K15 hK15 hE15 => ?_)
      refine CW.region ?_
      refine LR.v (Y.eql rfl rfl rfl) (Wd.u rfl) rfl rfl ?_
      refine LR.v (Y.assign rfl rfl) (Wd.u rfl) rfl rfl ?_
      refine LR.nil ?_
      refine hK15 _ _ ?_
      refine CW.condp rfl (fun c26 => ?_) (fun c26 => ?_)
      ·
        refine CW.skip ?_
        refine hK14 _ _ ?_
        refine CW.condp rfl (fun c26 => ?_) (fun c26 => ?_)
        ·
          refine CW.region ?_
          refine LR.v (Y.move rfl rfl) (Wd.u rfl) rfl rfl ?_
          refine LR.v (Y.move rfl rfl) (Wd.u rfl) rfl rfl ?_
          refine LR.v (Y.move rfl rfl) (Wd.u rfl) rfl rfl ?_
          refine LR.e (g := fun ad => .pointer (some ad)) (Y.indexAddrF hl (j) rfl Try.runUnderlying50 Try.sizeOf54 rfl rfl (by first | rfl | omega) (by first | omega | (simp; omega) | (simp; done))) (Wd.u rfl) rfl rfl (fun ad32 pt32 => ?_)
          have bf_pt32 := bf_hl
          refine LR.v (Y.fieldAddr pt32.pt rfl Try.runUnderlying54 rfl rfl Try.sizeOf32 (by decide) rfl) (Wd.u rfl) rfl rfl ?_
          refine LR.v (Y.load1 (pt32.pt.drop 2) rfl Try.isAgg32 rfl) (Wd.u rfl) rfl rfl ?_
          -- call selvage/selvageref12.Join
          refine LR.call rfl Try.call12 rfl (Wd.u rfl) rfl rfl (rjoin3 _ l[j].o w0 _ (hx l[j] (List.getElem_mem hjl)).o.any (by first | exact Nat.le_trans hb1 (by decide) | exact Nat.le_trans hb2 (by decide) | exact Nat.le_trans hb3 (by decide))) (fun v35 H35 r35 => ?_)
          obtain ⟨v35, k35, rfl, oj35, hk35, hs35⟩ := r35
          have df17 := DF.app (DF.z) (bf_hl.mono hm0.size) hk35
          have df18 := DF.app (DF.z) (bf_hx.mono hm0.size) hk35
          have dj19 : Dj ko k35 := Dj.app (Dj.z) ow.le hk35
          have df20 := DF.app (DF.z) (bf_pt32.mono hm0.size) hk35
          have nx21 : Nx 0 H0.size k35 := Nx.tr (Nx.refl 0 _) hk35 hm0.size
          have nx22 : Nx 0 H0.size k35 := Nx.tr (Nx.refl 0 _) hk35 hlm1.size
          replace hl := hl.nw hs35
          replace hx := fun x hx_ => (hx x hx_).nw hs35
          replace ow := ow.nw hs35
          replace pt32 := pt32.nw hs35
          replace hm0 := hm0.tr hs35
          replace hlm1 := hlm1.tr hs35
          have hz4 := hs35.size
          have hle_oj35 := oj35.le
          refine LR.z (Z.apnd ow oj35.rd rfl inf22 rfl rfl (by have h1 := hb1; have h2 := hb2; have h3 := hb3; simp only at h1 h2 h3; omega) (by have h1 := hb1; have h2 := hb2; have h3 := hb3; simp only at h1 h2 h3; omega)) (Wd.u rfl) rfl rfl (fun v36 H36 r36 => ?_)
          obtain ⟨k36, ow, hk36, hs36⟩ := r36
          replace hk36 : Nx ko H35.size k36 := hk36
          replace hs36 := hs36.md
          have df23 := DF.app (df1) (bf_hl.mono hm0.size) hk36
          have df24 := DF.app (df2) (bf_hx.mono hm0.size) hk36
          have df25 := DF.app (df1) (bf_pt32.mono hm0.size) hk36
          have dj26 : Dj k35 k36 := Dj.app (dj19.symm) oj35.le hk36
          have nx27 : Nx 0 H0.size k36 := Nx.tr (nx3) hk36 hm0.size
          have nx28 : Nx 0 H0.size k36 := Nx.tr (nx4) hk36 hlm1.size
          replace hl := hl.upL hs36 (DFL.cons df1 DFL.nil)
          replace hx := fun x hx_ => (hx x hx_).upL hs36 (DFL.cons df2 DFL.nil)
          replace pt32 := pt32.upL hs36 (DFL.cons df1 DFL.nil)
          replace oj35 := oj35.upL hs36 (DL.cons dj19.symm DL.nil)
          replace hm0 := (Mo.trL (ks := []) (hm0.mdn []) hs36 (MIL.cons (MI.app MI.z (nx3) (Nat.le_refl _)) MIL.nil)).nil
          replace hlm1 := (Mo.trL (ks := []) (hlm1.mdn []) hs36 (MIL.cons (MI.app MI.z (nx4) (Nat.le_refl _)) MIL.nil)).nil
          have hz5 := hs36.size
          have hle_ow := ow.le
          refine LR.v (Y.assign rfl rfl) (Wd.u rfl) rfl rfl ?_
          refine LR.nil ?_
          refine hK12 _ _ ?_
          refine hK10 _ _ ?_
          refine hK9 _ _ ?_
          refine CW.region ?_
          refine LR.v (Y.move rfl rfl) (Wd.u rfl) rfl rfl ?_
          refine LR.v (Y.addi rfl rfl rfl (by omega)) (Wd.u rfl) rfl rfl ?_
          refine LR.v (Y.assign rfl rfl) (Wd.u rfl) rfl rfl ?_
          refine LR.nil ?_
          have hrk := rendK l j hjl
          refine QN.sub (hN6 (j + 1, v36, k36) _ ?_ ?_) ⟨rfl, rfl, (iv (by omega)), trivial⟩
          · exact ⟨(by omega), by rw [hrk, r1_1 (by omega)]; exact ow, nx28, hlm1⟩
          · first | omega | (simp only; omega) | (simp; omega)
        ·
          refine CW.seq (fun K16 hK16 hE16 => ?_)
          refine CW.region ?_
          refine LR.v (Y.eql rfl rfl rfl) (Wd.u rfl) rfl rfl ?_
          refine LR.v (Y.assign rfl rfl) (Wd.u rfl) rfl rfl ?_
          refine LR.nil ?_
          refine hK16 _ _ ?_
          refine CW.condp rfl (fun c37 => ?_) (fun c37 => ?_)
          ·
            refine CW.region ?_
            refine LR.v (Y.move rfl rfl) (Wd.u rfl) rfl rfl ?_
            refine LR.v (Y.move rfl rfl) (Wd.u rfl) rfl rfl ?_
            refine LR.v (Y.move rfl rfl) (Wd.u rfl) rfl rfl ?_
            refine LR.e (g := fun ad => .pointer (some ad)) (Y.indexAddrF hl (j) rfl Try.runUnderlying50 Try.sizeOf54 rfl rfl (by first | rfl | omega) (by first | omega | (simp; omega) | (simp; done))) (Wd.u rfl) rfl rfl (fun ad42 pt42 => ?_)
            have bf_pt42 := bf_hl
            refine LR.v (Y.fieldAddr pt42.pt rfl Try.runUnderlying54 rfl rfl Try.sizeOf32 (by decide) rfl) (Wd.u rfl) rfl rfl ?_
            refine LR.v (Y.load1 (pt42.pt.drop 3) rfl Try.isAgg32 rfl) (Wd.u rfl) rfl rfl ?_
            -- call selvage/selvageref12.Join
            refine LR.call rfl Try.call12 rfl (Wd.u rfl) rfl rfl (rjoin3 _ l[j].t w0 _ (hx l[j] (List.getElem_mem hjl)).t.any (by first | exact Nat.le_trans hb1 (by decide) | exact Nat.le_trans hb2 (by decide) | exact Nat.le_trans hb3 (by decide))) (fun v45 H45 r45 => ?_)
            obtain ⟨v45, k45, rfl, oj45, hk45, hs45⟩ := r45
            have df29 := DF.app (DF.z) (bf_hl.mono hm0.size) hk45
            have df30 := DF.app (DF.z) (bf_hx.mono hm0.size) hk45
            have dj31 : Dj ko k45 := Dj.app (Dj.z) ow.le hk45
            have df32 := DF.app (DF.z) (bf_pt42.mono hm0.size) hk45
            have nx33 : Nx 0 H0.size k45 := Nx.tr (Nx.refl 0 _) hk45 hm0.size
            have nx34 : Nx 0 H0.size k45 := Nx.tr (Nx.refl 0 _) hk45 hlm1.size
            replace hl := hl.nw hs45
            replace hx := fun x hx_ => (hx x hx_).nw hs45
            replace ow := ow.nw hs45
            replace pt42 := pt42.nw hs45
            replace hm0 := hm0.tr hs45
            replace hlm1 := hlm1.tr hs45
            have hz6 := hs45.size
            have hle_oj45 := oj45.le
            refine LR.z (Z.apnd ow oj45.rd rfl inf22 rfl rfl (by have h1 := hb1; have h2 := hb2; have h3 := hb3; simp only at h1 h2 h3; omega) (by have h1 := hb1; have h2 := hb2; have h3 := hb3; simp only at h1 h2 h3; omega)) (Wd.u rfl) rfl rfl (fun v46 H46 r46 => ?_)
            obtain ⟨k46, ow, hk46, hs46⟩ := r46
            replace hk46 : Nx ko H45.size k46 := hk46
            replace hs46 := hs46.md
            have df35 := DF.app (df1) (bf_hl.mono hm0.size) hk46
            have df36 := DF.app (df2) (bf_hx.mono hm0.size) hk46
            have df37 := DF.app (df1) (bf_pt42.mono hm0.size) hk46
            have dj38 : Dj k45 k46 := Dj.app (dj31.symm) oj45.le hk46
            have nx39 : Nx 0 H0.size k46 := Nx.tr (nx3) hk46 hm0.size
            have nx40 : Nx 0 H0.size k46 := Nx.tr (nx4) hk46 hlm1.size
            replace hl := hl.upL hs46 (DFL.cons df1 DFL.nil)
            replace hx := fun x hx_ => (hx x hx_).upL hs46 (DFL.cons df2 DFL.nil)
            replace pt42 := pt42.upL hs46 (DFL.cons df1 DFL.nil)
            replace oj45 := oj45.upL hs46 (DL.cons dj31.symm DL.nil)
            replace hm0 := (Mo.trL (ks := []) (hm0.mdn []) hs46 (MIL.cons (MI.app MI.z (nx3) (Nat.le_refl _)) MIL.nil)).nil
            replace hlm1 := (Mo.trL (ks := []) (hlm1.mdn []) hs46 (MIL.cons (MI.app MI.z (nx4) (Nat.le_refl _)) MIL.nil)).nil
            have hz7 := hs46.size
            have hle_ow := ow.le
            refine LR.v (Y.assign rfl rfl) (Wd.u rfl) rfl rfl ?_
            refine LR.nil ?_
            refine hK12 _ _ ?_
            refine hK10 _ _ ?_
            refine hK9 _ _ ?_
            refine CW.region ?_
            refine LR.v (Y.move rfl rfl) (Wd.u rfl) rfl rfl ?_
            refine LR.v (Y.addi rfl rfl rfl (by omega)) (Wd.u rfl) rfl rfl ?_
            refine LR.v (Y.assign rfl rfl) (Wd.u rfl) rfl rfl ?_
            refine LR.nil ?_
            have hrk := rendK l j hjl
            refine QN.sub (hN6 (j + 1, v46, k46) _ ?_ ?_) ⟨rfl, rfl, (iv (by omega)), trivial⟩
            · exact ⟨(by omega), by rw [hrk, r1_2 (by omega)]; exact ow, nx40, hlm1⟩
            · first | omega | (simp only; omega) | (simp; omega)
          ·
            refine CW.seq (fun K17 hK17 hE17 => ?_)
            refine CW.region ?_
            refine LR.v (Y.eql rfl rfl rfl) (Wd.u rfl) rfl rfl ?_
            refine LR.v (Y.assign rfl rfl) (Wd.u rfl) rfl rfl ?_
            refine LR.nil ?_
            refine hK17 _ _ ?_
            refine CW.condp rfl (fun c47 => ?_) (fun c47 => ?_)
            ·
              refine CW.seq (fun K18 hK18 hE18 => ?_)
              refine CW.region_any (fun Hq => Mo (Ms [ko]) HL1 Hq) [] rfl ?_
              have hq14 : Mo (Ms [ko]) HL1 HL1 := Mo.refl _ _
              have nx41 := Nx.refl ko HL1.size
              refine LH.take 0 (by kernel_rfl) rfl (by kernel_rfl) (by kernel_rfl) (by kernel_rfl) (fun Hq hq => Y.move rfl rfl) (Wd.u rfl) rfl rfl hq14 ?_
              refine LH.take 3 (by kernel_rfl) rfl (by kernel_rfl) (by kernel_rfl) (by kernel_rfl) (fun Hq hq => Y.move rfl rfl) (Wd.u rfl) rfl rfl hq14 ?_
              refine LH.take 4 (by kernel_rfl) rfl (by kernel_rfl) (by kernel_rfl) (by kernel_rfl) (fun Hq hq => Y.move rfl rfl) (Wd.u rfl) rfl rfl hq14 ?_
              refine LH.e (g := fun ad => .pointer (some ad)) 5 (by kernel_rfl) rfl (by kernel_rfl) (by kernel_rfl) (by kernel_rfl) (Y.indexAddrF hl (j) rfl Try.runUnderlying50 Try.sizeOf54 rfl rfl (by first | rfl | omega) (by first | omega | (simp; omega) | (simp; done))) (Wd.u rfl) rfl rfl hq14 (fun ad54 pt54 => ?_)
              have bf_pt54 := bf_hl
              refine LH.take 6 (by kernel_rfl) rfl (by kernel_rfl) (by kernel_rfl) (by kernel_rfl) (fun Hq hq => Y.fieldAddr (pt54.upL hq (DFL.cons df1 DFL.nil)).pt rfl Try.runUnderlying54 rfl rfl Try.sizeOf32 (by decide) rfl) (Wd.u rfl) rfl rfl hq14 ?_
              refine LH.take 7 (by kernel_rfl) rfl (by kernel_rfl) (by kernel_rfl) (by kernel_rfl) (fun Hq hq => Y.load1 ((pt54.upL hq (DFL.cons df1 DFL.nil)).pt.drop 2) rfl Try.isAgg32 rfl) (Wd.u rfl) rfl rfl hq14 ?_
              refine LH.one (i := 1) (by kernel_rfl) ?_
              -- call selvage/selvageref14.mark
              refine LO.call rfl rfl Try.call52 rfl (Wd.u rfl) rfl rfl (mark_ct 0 w0 _ (by decide)) (fun v50 H50 r50 => ?_)
              obtain ⟨rfl, hs50⟩ := r50
              replace hl := hl.nw hs50
              replace hx := fun x hx_ => (hx x hx_).nw hs50
              replace ow := ow.nw hs50
              replace pt54 := pt54.nw hs50
              replace hm0 := hm0.tr hs50
              replace hlm1 := hlm1.tr hs50
              replace hq14 := hq14.trN hs50
              have hz8 := hs50.size
              refine ⟨.inr hq14, LH.narrow (SH2 := fun Hq => Mo (Ms [ko]) H50 Hq) (fun Hq hq => hq14.trL hq (MIL.cons (MI.app (MI.root (by simp)) (nx41) (Nat.le_refl _)) MIL.nil)) ?_⟩
              have hq14 : Mo (Ms [ko]) H50 H50 := Mo.refl _ _
              have nx42 := Nx.refl ko H50.size
              refine LH.one (i := 2) (by kernel_rfl) ?_
              refine LO.z rfl (Z.apndStr ow rfl inf22 Try.underlying9 rfl rfl (by have h1 := mk_len 0; have e1 := endL_le l[j].o.flatten; have e2 := endL_le l[j].b.flatten; have e3 := endL_le l[j].t.flatten; have e4 := mk_len 0; have e5 := mk_len 1; have e6 := mk_len 2; have h1 := hb1; have h2 := hb2; have h3 := hb3; simp only [Ck.c] at h1 h2 h3; (try simp only [List.length_append]); omega)) (Wd.u rfl) rfl rfl (fun v51 H51 r51 => ?_)
              obtain ⟨k51, ow, hk51, hs51⟩ := r51
              replace hk51 : Nx ko H50.size k51 := hk51
              replace hs51 := hs51.md
              have df43 := DF.app (df1) (bf_hl.mono hm0.size) hk51
              have df44 := DF.app (df2) (bf_hx.mono hm0.size) hk51
              have df45 := DF.app (df1) (bf_pt54.mono hm0.size) hk51
              have nx46 : Nx 0 H0.size k51 := Nx.tr (nx3) hk51 hm0.size
              have nx47 : Nx 0 H0.size k51 := Nx.tr (nx4) hk51 hlm1.size
              have nx48 : Nx ko H50.size k51 := Nx.tr (nx42) hk51 hq14.size
              replace hl := hl.upL hs51 (DFL.cons df1 DFL.nil)
              replace hx := fun x hx_ => (hx x hx_).upL hs51 (DFL.cons df2 DFL.nil)
              replace pt54 := pt54.upL hs51 (DFL.cons df1 DFL.nil)
              replace hm0 := (Mo.trL (ks := []) (hm0.mdn []) hs51 (MIL.cons (MI.app MI.z (nx3) (Nat.le_refl _)) MIL.nil)).nil
              replace hlm1 := (Mo.trL (ks := []) (hlm1.mdn []) hs51 (MIL.cons (MI.app MI.z (nx4) (Nat.le_refl _)) MIL.nil)).nil
              replace hq14 := hq14.trL hs51 (MIL.cons (MI.app (MI.root (by simp)) (nx42) (Nat.le_refl _)) MIL.nil)
              have hz9 := hs51.size
              have hle_ow := ow.le
              refine ⟨.inr hq14, LH.narrow (SH2 := fun Hq => Mo (Ms [k51]) H51 Hq) (fun Hq hq => hq14.trL hq (MIL.cons (MI.app (MI.root (by simp)) (nx48) (Nat.le_refl _)) MIL.nil)) ?_⟩
              have hq14 : Mo (Ms [k51]) H51 H51 := Mo.refl _ _
              have nx49 := Nx.refl k51 H51.size
              refine LH.one (i := 8) (by kernel_rfl) ?_
              -- call selvage/selvageref14.ended
              refine LO.call rfl rfl Try.call53 rfl (Wd.u rfl) rfl rfl (ended_ct _ l[j].o w0 _ (hx l[j] (List.getElem_mem hjl)).o.any hb2) (fun v57 H57 r57 => ?_)
              obtain ⟨v257, k257, rfl, oj57, hk57, hs57⟩ := r57
              have df50 := DF.app (DF.z) (bf_hl.mono hm0.size) hk57
              have df51 := DF.app (DF.z) (bf_hx.mono hm0.size) hk57
              have dj52 : Dj k51 k257 := Dj.app (Dj.z) ow.le hk57
              have df53 := DF.app (DF.z) (bf_pt54.mono hm0.size) hk57
              have nx54 : Nx 0 H0.size k257 := Nx.tr (Nx.refl 0 _) hk57 hm0.size
              have nx55 : Nx 0 H0.size k257 := Nx.tr (Nx.refl 0 _) hk57 hlm1.size
              have nx56 : Nx 0 H51.size k257 := Nx.tr (Nx.refl 0 _) hk57 hq14.size
              replace hl := hl.nw hs57
              replace hx := fun x hx_ => (hx x hx_).nw hs57
              replace ow := ow.nw hs57
              replace pt54 := pt54.nw hs57
              replace hm0 := hm0.tr hs57
              replace hlm1 := hlm1.tr hs57
              replace hq14 := hq14.trN hs57
              have hz10 := hs57.size
              have hle_oj57 := oj57.le
              refine ⟨.inr hq14, LH.narrow (SH2 := fun Hq => Mo (Ms [k51]) H57 Hq) (fun Hq hq => hq14.trL hq (MIL.cons (MI.app (MI.root (by simp)) (nx49) (Nat.le_refl _)) MIL.nil)) ?_⟩
              have hq14 : Mo (Ms [k51]) H57 H57 := Mo.refl _ _
              have nx57 := Nx.refl k51 H57.size
              refine LH.one (i := 9) (by kernel_rfl) ?_
              refine LO.z rfl (Z.apnd ow oj57.rd rfl inf22 rfl rfl (by have h1 := mk_len 0; have e1 := endL_le l[j].o.flatten; have e2 := endL_le l[j].b.flatten; have e3 := endL_le l[j].t.flatten; have e4 := mk_len 0; have e5 := mk_len 1; have e6 := mk_len 2; have h1 := hb1; have h2 := hb2; have h3 := hb3; simp only [Ck.c] at h1 h2 h3; (try simp only [List.length_append]); omega) (by have h1 := mk_len 0; have e1 := endL_le l[j].o.flatten; have e2 := endL_le l[j].b.flatten; have e3 := endL_le l[j].t.flatten; have e4 := mk_len 0; have e5 := mk_len 1; have e6 := mk_len 2; have h1 := hb1; have h2 := hb2; have h3 := hb3; simp only [Ck.c] at h1 h2 h3; (try simp only [List.length_append]); omega)) (Wd.u rfl) rfl rfl (fun v58 H58 r58 => ?_)
              obtain ⟨k58, ow, hk58, hs58⟩ := r58
              replace hk58 : Nx k51 H57.size k58 := hk58
              replace hs58 := hs58.md
              have df58 := DF.app (df43) (bf_hl.mono hm0.size) hk58
              have df59 := DF.app (df44) (bf_hx.mono hm0.size) hk58
              have df60 := DF.app (df45) (bf_pt54.mono hm0.size) hk58
              have dj61 : Dj k257 k58 := Dj.app (dj52.symm) oj57.le hk58
              have nx62 : Nx 0 H0.size k58 := Nx.tr (nx46) hk58 hm0.size
              have nx63 : Nx 0 H0.size k58 := Nx.tr (nx47) hk58 hlm1.size
              have nx64 : Nx k51 H57.size k58 := Nx.tr (nx57) hk58 hq14.size
              replace hl := hl.upL hs58 (DFL.cons df43 DFL.nil)
              replace hx := fun x hx_ => (hx x hx_).upL hs58 (DFL.cons df44 DFL.nil)
              replace pt54 := pt54.upL hs58 (DFL.cons df45 DFL.nil)
              replace oj57 := oj57.upL hs58 (DL.cons dj52.symm DL.nil)
              replace hm0 := (Mo.trL (ks := []) (hm0.mdn []) hs58 (MIL.cons (MI.app MI.z (nx46) (Nat.le_refl _)) MIL.nil)).nil
              replace hlm1 := (Mo.trL (ks := []) (hlm1.mdn []) hs58 (MIL.cons (MI.app MI.z (nx47) (Nat.le_refl _)) MIL.nil)).nil
              replace hq14 := hq14.trL hs58 (MIL.cons (MI.app (MI.root (by simp)) (nx57) (Nat.le_refl _)) MIL.nil)
              have hz11 := hs58.size
              have hle_ow := ow.le
              refine ⟨.inr hq14, LH.narrow (SH2 := fun Hq => Mo (Ms [k58]) H58 Hq) (fun Hq hq => hq14.trL hq (MIL.cons (MI.app (MI.root (by simp)) (nx64) (Nat.le_refl _)) MIL.nil)) ?_⟩
              have hq14 : Mo (Ms [k58]) H58 H58 := Mo.refl _ _
              have nx65 := Nx.refl k58 H58.size
              refine LH.take 10 (by kernel_rfl) rfl (by kernel_rfl) (by kernel_rfl) (by kernel_rfl) (fun Hq hq => Y.assign rfl rfl) (Wd.u rfl) rfl rfl hq14 ?_
              refine LH.done (by kernel_rfl) ?_
              refine hK18 _ _ ?_
              refine CW.seq (fun K19 hK19 hE19 => ?_)
              refine CW.region_any (fun Hq => Mo (Ms [k58]) H58 Hq) [] rfl ?_
              have hq15 : Mo (Ms [k58]) H58 H58 := Mo.refl _ _
              have nx66 := Nx.refl k58 H58.size
              refine LH.take 0 (by kernel_rfl) rfl (by kernel_rfl) (by kernel_rfl) (by kernel_rfl) (fun Hq hq => Y.move rfl rfl) (Wd.u rfl) rfl rfl hq15 ?_
              refine LH.take 3 (by kernel_rfl) rfl (by kernel_rfl) (by kernel_rfl) (by kernel_rfl) (fun Hq hq => Y.move rfl rfl) (Wd.u rfl) rfl rfl hq15 ?_
              refine LH.take 4 (by kernel_rfl) rfl (by kernel_rfl) (by kernel_rfl) (by kernel_rfl) (fun Hq hq => Y.move rfl rfl) (Wd.u rfl) rfl rfl hq15 ?_
              refine LH.e (g := fun ad => .pointer (some ad)) 5 (by kernel_rfl) rfl (by kernel_rfl) (by kernel_rfl) (by kernel_rfl) (Y.indexAddrF hl (j) rfl Try.runUnderlying50 Try.sizeOf54 rfl rfl (by first | rfl | omega) (by first | omega | (simp; omega) | (simp; done))) (Wd.u rfl) rfl rfl hq15 (fun ad64 pt64 => ?_)
              have bf_pt64 := bf_hl
              refine LH.take 6 (by kernel_rfl) rfl (by kernel_rfl) (by kernel_rfl) (by kernel_rfl) (fun Hq hq => Y.fieldAddr (pt64.upL hq (DFL.cons df58 DFL.nil)).pt rfl Try.runUnderlying54 rfl rfl Try.sizeOf32 (by decide) rfl) (Wd.u rfl) rfl rfl hq15 ?_
              refine LH.take 7 (by kernel_rfl) rfl (by kernel_rfl) (by kernel_rfl) (by kernel_rfl) (fun Hq hq => Y.load1 ((pt64.upL hq (DFL.cons df58 DFL.nil)).pt.drop 1) rfl Try.isAgg32 rfl) (Wd.u rfl) rfl rfl hq15 ?_
              refine LH.one (i := 1) (by kernel_rfl) ?_
              -- call selvage/selvageref14.mark
              refine LO.call rfl rfl Try.call52 rfl (Wd.u rfl) rfl rfl (mark_ct 1 w0 _ (by decide)) (fun v60 H60 r60 => ?_)
              obtain ⟨rfl, hs60⟩ := r60
              replace hl := hl.nw hs60
              replace hx := fun x hx_ => (hx x hx_).nw hs60
              replace ow := ow.nw hs60
              replace pt64 := pt64.nw hs60
              replace hm0 := hm0.tr hs60
              replace hlm1 := hlm1.tr hs60
              replace hq15 := hq15.trN hs60
              have hz12 := hs60.size
              refine ⟨.inr hq15, LH.narrow (SH2 := fun Hq => Mo (Ms [k58]) H60 Hq) (fun Hq hq => hq15.trL hq (MIL.cons (MI.app (MI.root (by simp)) (nx66) (Nat.le_refl _)) MIL.nil)) ?_⟩
              have hq15 : Mo (Ms [k58]) H60 H60 := Mo.refl _ _
              have nx67 := Nx.refl k58 H60.size
              refine LH.one (i := 2) (by kernel_rfl) ?_
              refine LO.z rfl (Z.apndStr ow rfl inf22 Try.underlying9 rfl rfl (by have h1 := mk_len 1; have e1 := endL_le l[j].o.flatten; have e2 := endL_le l[j].b.flatten; have e3 := endL_le l[j].t.flatten; have e4 := mk_len 0; have e5 := mk_len 1; have e6 := mk_len 2; have h1 := hb1; have h2 := hb2; have h3 := hb3; simp only [Ck.c] at h1 h2 h3; (try simp only [List.length_append]); omega)) (Wd.u rfl) rfl rfl (fun v61 H61 r61 => ?_)
              obtain ⟨k61, ow, hk61, hs61⟩ := r61
              replace hk61 : Nx k58 H60.size k61 := hk61
              replace hs61 := hs61.md
              have df68 := DF.app (df58) (bf_hl.mono hm0.size) hk61
              have df69 := DF.app (df59) (bf_hx.mono hm0.size) hk61
              have df70 := DF.app (df58) (bf_pt64.mono hm0.size) hk61
              have nx71 : Nx 0 H0.size k61 := Nx.tr (nx62) hk61 hm0.size
              have nx72 : Nx 0 H0.size k61 := Nx.tr (nx63) hk61 hlm1.size
              have nx73 : Nx k58 H60.size k61 := Nx.tr (nx67) hk61 hq15.size
              replace hl := hl.upL hs61 (DFL.cons df58 DFL.nil)
              replace hx := fun x hx_ => (hx x hx_).upL hs61 (DFL.cons df59 DFL.nil)
              replace pt64 := pt64.upL hs61 (DFL.cons df58 DFL.nil)
              replace hm0 := (Mo.trL (ks := []) (hm0.mdn []) hs61 (MIL.cons (MI.app MI.z (nx62) (Nat.le_refl _)) MIL.nil)).nil
              replace hlm1 := (Mo.trL (ks := []) (hlm1.mdn []) hs61 (MIL.cons (MI.app MI.z (nx63) (Nat.le_refl _)) MIL.nil)).nil
              replace hq15 := hq15.trL hs61 (MIL.cons (MI.app (MI.root (by simp)) (nx67) (Nat.le_refl _)) MIL.nil)
              have hz13 := hs61.size
              have hle_ow := ow.le
              refine ⟨.inr hq15, LH.narrow (SH2 := fun Hq => Mo (Ms [k61]) H61 Hq) (fun Hq hq => hq15.trL hq (MIL.cons (MI.app (MI.root (by simp)) (nx73) (Nat.le_refl _)) MIL.nil)) ?_⟩
              have hq15 : Mo (Ms [k61]) H61 H61 := Mo.refl _ _
              have nx74 := Nx.refl k61 H61.size
              refine LH.one (i := 8) (by kernel_rfl) ?_
              -- call selvage/selvageref14.ended
              refine LO.call rfl rfl Try.call53 rfl (Wd.u rfl) rfl rfl (ended_ct _ l[j].b w0 _ (hx l[j] (List.getElem_mem hjl)).b.any hb1) (fun v67 H67 r67 => ?_)
              obtain ⟨v267, k267, rfl, oj67, hk67, hs67⟩ := r67
              have df75 := DF.app (DF.z) (bf_hl.mono hm0.size) hk67
              have df76 := DF.app (DF.z) (bf_hx.mono hm0.size) hk67
              have dj77 : Dj k61 k267 := Dj.app (Dj.z) ow.le hk67
              have df78 := DF.app (DF.z) (bf_pt64.mono hm0.size) hk67
              have nx79 : Nx 0 H0.size k267 := Nx.tr (Nx.refl 0 _) hk67 hm0.size
              have nx80 : Nx 0 H0.size k267 := Nx.tr (Nx.refl 0 _) hk67 hlm1.size
              have nx81 : Nx 0 H61.size k267 := Nx.tr (Nx.refl 0 _) hk67 hq15.size
              replace hl := hl.nw hs67
              replace hx := fun x hx_ => (hx x hx_).nw hs67
              replace ow := ow.nw hs67
              replace pt64 := pt64.nw hs67
              replace hm0 := hm0.tr hs67
              replace hlm1 := hlm1.tr hs67
              replace hq15 := hq15.trN hs67
              have hz14 := hs67.size
              have hle_oj67 := oj67.le
              refine ⟨.inr hq15, LH.narrow (SH2 := fun Hq => Mo (Ms [k61]) H67 Hq) (fun Hq hq => hq15.trL hq (MIL.cons (MI.app (MI.root (by simp)) (nx74) (Nat.le_refl _)) MIL.nil)) ?_⟩
              have hq15 : Mo (Ms [k61]) H67 H67 := Mo.refl _ _
              have nx82 := Nx.refl k61 H67.size
              refine LH.one (i := 9) (by kernel_rfl) ?_
              refine LO.z rfl (Z.apnd ow oj67.rd rfl inf22 rfl rfl (by have h1 := mk_len 1; have e1 := endL_le l[j].o.flatten; have e2 := endL_le l[j].b.flatten; have e3 := endL_le l[j].t.flatten; have e4 := mk_len 0; have e5 := mk_len 1; have e6 := mk_len 2; have h1 := hb1; have h2 := hb2; have h3 := hb3; simp only [Ck.c] at h1 h2 h3; (try simp only [List.length_append]); omega) (by have h1 := mk_len 1; have e1 := endL_le l[j].o.flatten; have e2 := endL_le l[j].b.flatten; have e3 := endL_le l[j].t.flatten; have e4 := mk_len 0; have e5 := mk_len 1; have e6 := mk_len 2; have h1 := hb1; have h2 := hb2; have h3 := hb3; simp only [Ck.c] at h1 h2 h3; (try simp only [List.length_append]); omega)) (Wd.u rfl) rfl rfl (fun v68 H68 r68 => ?_)
              obtain ⟨k68, ow, hk68, hs68⟩ := r68
              replace hk68 : Nx k61 H67.size k68 := hk68
              replace hs68 := hs68.md
              have df83 := DF.app (df68) (bf_hl.mono hm0.size) hk68
              have df84 := DF.app (df69) (bf_hx.mono hm0.size) hk68
              have df85 := DF.app (df70) (bf_pt64.mono hm0.size) hk68
              have dj86 : Dj k267 k68 := Dj.app (dj77.symm) oj67.le hk68
              have nx87 : Nx 0 H0.size k68 := Nx.tr (nx71) hk68 hm0.size
              have nx88 : Nx 0 H0.size k68 := Nx.tr (nx72) hk68 hlm1.size
              have nx89 : Nx k61 H67.size k68 := Nx.tr (nx82) hk68 hq15.size
              replace hl := hl.upL hs68 (DFL.cons df68 DFL.nil)
              replace hx := fun x hx_ => (hx x hx_).upL hs68 (DFL.cons df69 DFL.nil)
              replace pt64 := pt64.upL hs68 (DFL.cons df70 DFL.nil)
              replace oj67 := oj67.upL hs68 (DL.cons dj77.symm DL.nil)
              replace hm0 := (Mo.trL (ks := []) (hm0.mdn []) hs68 (MIL.cons (MI.app MI.z (nx71) (Nat.le_refl _)) MIL.nil)).nil
              replace hlm1 := (Mo.trL (ks := []) (hlm1.mdn []) hs68 (MIL.cons (MI.app MI.z (nx72) (Nat.le_refl _)) MIL.nil)).nil
              replace hq15 := hq15.trL hs68 (MIL.cons (MI.app (MI.root (by simp)) (nx82) (Nat.le_refl _)) MIL.nil)
              have hz15 := hs68.size
              have hle_ow := ow.le
              refine ⟨.inr hq15, LH.narrow (SH2 := fun Hq => Mo (Ms [k68]) H68 Hq) (fun Hq hq => hq15.trL hq (MIL.cons (MI.app (MI.root (by simp)) (nx89) (Nat.le_refl _)) MIL.nil)) ?_⟩
              have hq15 : Mo (Ms [k68]) H68 H68 := Mo.refl _ _
              have nx90 := Nx.refl k68 H68.size
              refine LH.take 10 (by kernel_rfl) rfl (by kernel_rfl) (by kernel_rfl) (by kernel_rfl) (fun Hq hq => Y.assign rfl rfl) (Wd.u rfl) rfl rfl hq15 ?_
              refine LH.done (by kernel_rfl) ?_
              refine hK19 _ _ ?_
              refine CW.seq (fun K20 hK20 hE20 => ?_)
              refine CW.region_any (fun Hq => Mo (Ms [k68]) H68 Hq) [] rfl ?_
              have hq16 : Mo (Ms [k68]) H68 H68 := Mo.refl _ _
              have nx91 := Nx.refl k68 H68.size
              refine LH.take 0 (by kernel_rfl) rfl (by kernel_rfl) (by kernel_rfl) (by kernel_rfl) (fun Hq hq => Y.move rfl rfl) (Wd.u rfl) rfl rfl hq16 ?_
              refine LH.take 3 (by kernel_rfl) rfl (by kernel_rfl) (by kernel_rfl) (by kernel_rfl) (fun Hq hq => Y.move rfl rfl) (Wd.u rfl) rfl rfl hq16 ?_
              refine LH.take 4 (by kernel_rfl) rfl (by kernel_rfl) (by kernel_rfl) (by kernel_rfl) (fun Hq hq => Y.move rfl rfl) (Wd.u rfl) rfl rfl hq16 ?_
              refine LH.e (g := fun ad => .pointer (some ad)) 5 (by kernel_rfl) rfl (by kernel_rfl) (by kernel_rfl) (by kernel_rfl) (Y.indexAddrF hl (j) rfl Try.runUnderlying50 Try.sizeOf54 rfl rfl (by first | rfl | omega) (by first | omega | (simp; omega) | (simp; done))) (Wd.u rfl) rfl rfl hq16 (fun ad74 pt74 => ?_)
              have bf_pt74 := bf_hl
              refine LH.take 6 (by kernel_rfl) rfl (by kernel_rfl) (by kernel_rfl) (by kernel_rfl) (fun Hq hq => Y.fieldAddr (pt74.upL hq (DFL.cons df83 DFL.nil)).pt rfl Try.runUnderlying54 rfl rfl Try.sizeOf32 (by decide) rfl) (Wd.u rfl) rfl rfl hq16 ?_
              refine LH.take 7 (by kernel_rfl) rfl (by kernel_rfl) (by kernel_rfl) (by kernel_rfl) (fun Hq hq => Y.load1 ((pt74.upL hq (DFL.cons df83 DFL.nil)).pt.drop 3) rfl Try.isAgg32 rfl) (Wd.u rfl) rfl rfl hq16 ?_
              refine LH.one (i := 1) (by kernel_rfl) ?_
              -- call selvage/selvageref14.mark
              refine LO.call rfl rfl Try.call52 rfl (Wd.u rfl) rfl rfl (mark_ct 2 w0 _ (by decide)) (fun v70 H70 r70 => ?_)
              obtain ⟨rfl, hs70⟩ := r70
              replace hl := hl.nw hs70
              replace hx := fun x hx_ => (hx x hx_).nw hs70
              replace ow := ow.nw hs70
              replace pt74 := pt74.nw hs70
              replace hm0 := hm0.tr hs70
              replace hlm1 := hlm1.tr hs70
              replace hq16 := hq16.trN hs70
              have hz16 := hs70.size
              refine ⟨.inr hq16, LH.narrow (SH2 := fun Hq => Mo (Ms [k68]) H70 Hq) (fun Hq hq => hq16.trL hq (MIL.cons (MI.app (MI.root (by simp)) (nx91) (Nat.le_refl _)) MIL.nil)) ?_⟩
              have hq16 : Mo (Ms [k68]) H70 H70 := Mo.refl _ _
              have nx92 := Nx.refl k68 H70.size
              refine LH.one (i := 2) (by kernel_rfl) ?_
              refine LO.z rfl (Z.apndStr ow rfl inf22 Try.underlying9 rfl rfl (by have h1 := mk_len 2; have e1 := endL_le l[j].o.flatten; have e2 := endL_le l[j].b.flatten; have e3 := endL_le l[j].t.flatten; have e4 := mk_len 0; have e5 := mk_len 1; have e6 := mk_len 2; have h1 := hb1; have h2 := hb2; have h3 := hb3; simp only [Ck.c] at h1 h2 h3; (try simp only [List.length_append]); omega)) (Wd.u rfl) rfl rfl (fun v71 H71 r71 => ?_)
              obtain ⟨k71, ow, hk71, hs71⟩ := r71
              replace hk71 : Nx k68 H70.size k71 := hk71
              replace hs71 := hs71.md
              have df93 := DF.app (df83) (bf_hl.mono hm0.size) hk71
              have df94 := DF.app (df84) (bf_hx.mono hm0.size) hk71
              have df95 := DF.app (df83) (bf_pt74.mono hm0.size) hk71
              have nx96 : Nx 0 H0.size k71 := Nx.tr (nx87) hk71 hm0.size
              have nx97 : Nx 0 H0.size k71 := Nx.tr (nx88) hk71 hlm1.size
              have nx98 : Nx k68 H70.size k71 := Nx.tr (nx92) hk71 hq16.size
              replace hl := hl.upL hs71 (DFL.cons df83 DFL.nil)
              replace hx := fun x hx_ => (hx x hx_).upL hs71 (DFL.cons df84 DFL.nil)
              replace pt74 := pt74.upL hs71 (DFL.cons df83 DFL.nil)
              replace hm0 := (Mo.trL (ks := []) (hm0.mdn []) hs71 (MIL.cons (MI.app MI.z (nx87) (Nat.le_refl _)) MIL.nil)).nil
              replace hlm1 := (Mo.trL (ks := []) (hlm1.mdn []) hs71 (MIL.cons (MI.app MI.z (nx88) (Nat.le_refl _)) MIL.nil)).nil
              replace hq16 := hq16.trL hs71 (MIL.cons (MI.app (MI.root (by simp)) (nx92) (Nat.le_refl _)) MIL.nil)
              have hz17 := hs71.size
              have hle_ow := ow.le
              refine ⟨.inr hq16, LH.narrow (SH2 := fun Hq => Mo (Ms [k71]) H71 Hq) (fun Hq hq => hq16.trL hq (MIL.cons (MI.app (MI.root (by simp)) (nx98) (Nat.le_refl _)) MIL.nil)) ?_⟩
              have hq16 : Mo (Ms [k71]) H71 H71 := Mo.refl _ _
              have nx99 := Nx.refl k71 H71.size
              refine LH.one (i := 8) (by kernel_rfl) ?_
              -- call selvage/selvageref14.ended
              refine LO.call rfl rfl Try.call53 rfl (Wd.u rfl) rfl rfl (ended_ct _ l[j].t w0 _ (hx l[j] (List.getElem_mem hjl)).t.any hb3) (fun v77 H77 r77 => ?_)
              obtain ⟨v277, k277, rfl, oj77, hk77, hs77⟩ := r77
              have df100 := DF.app (DF.z) (bf_hl.mono hm0.size) hk77
              have df101 := DF.app (DF.z) (bf_hx.mono hm0.size) hk77
              have dj102 : Dj k71 k277 := Dj.app (Dj.z) ow.le hk77
              have df103 := DF.app (DF.z) (bf_pt74.mono hm0.size) hk77
              have nx104 : Nx 0 H0.size k277 := Nx.tr (Nx.refl 0 _) hk77 hm0.size
              have nx105 : Nx 0 H0.size k277 := Nx.tr (Nx.refl 0 _) hk77 hlm1.size
              have nx106 : Nx 0 H71.size k277 := Nx.tr (Nx.refl 0 _) hk77 hq16.size
              replace hl := hl.nw hs77
              replace hx := fun x hx_ => (hx x hx_).nw hs77
              replace ow := ow.nw hs77
              replace pt74 := pt74.nw hs77
              replace hm0 := hm0.tr hs77
              replace hlm1 := hlm1.tr hs77
              replace hq16 := hq16.trN hs77
              have hz18 := hs77.size
              have hle_oj77 := oj77.le
              refine ⟨.inr hq16, LH.narrow (SH2 := fun Hq => Mo (Ms [k71]) H77 Hq) (fun Hq hq => hq16.trL hq (MIL.cons (MI.app (MI.root (by simp)) (nx99) (Nat.le_refl _)) MIL.nil)) ?_⟩
              have hq16 : Mo (Ms [k71]) H77 H77 := Mo.refl _ _
              have nx107 := Nx.refl k71 H77.size
              refine LH.one (i := 9) (by kernel_rfl) ?_
              refine LO.z rfl (Z.apnd ow oj77.rd rfl inf22 rfl rfl (by have h1 := mk_len 2; have e1 := endL_le l[j].o.flatten; have e2 := endL_le l[j].b.flatten; have e3 := endL_le l[j].t.flatten; have e4 := mk_len 0; have e5 := mk_len 1; have e6 := mk_len 2; have h1 := hb1; have h2 := hb2; have h3 := hb3; simp only [Ck.c] at h1 h2 h3; (try simp only [List.length_append]); omega) (by have h1 := mk_len 2; have e1 := endL_le l[j].o.flatten; have e2 := endL_le l[j].b.flatten; have e3 := endL_le l[j].t.flatten; have e4 := mk_len 0; have e5 := mk_len 1; have e6 := mk_len 2; have h1 := hb1; have h2 := hb2; have h3 := hb3; simp only [Ck.c] at h1 h2 h3; (try simp only [List.length_append]); omega)) (Wd.u rfl) rfl rfl (fun v78 H78 r78 => ?_)
              obtain ⟨k78, ow, hk78, hs78⟩ := r78
              replace hk78 : Nx k71 H77.size k78 := hk78
              replace hs78 := hs78.md
              have df108 := DF.app (df93) (bf_hl.mono hm0.size) hk78
              have df109 := DF.app (df94) (bf_hx.mono hm0.size) hk78
              have df110 := DF.app (df95) (bf_pt74.mono hm0.size) hk78
              have dj111 : Dj k277 k78 := Dj.app (dj102.symm) oj77.le hk78
              have nx112 : Nx 0 H0.size k78 := Nx.tr (nx96) hk78 hm0.size
              have nx113 : Nx 0 H0.size k78 := Nx.tr (nx97) hk78 hlm1.size
              have nx114 : Nx k71 H77.size k78 := Nx.tr (nx107) hk78 hq16.size
              replace hl := hl.upL hs78 (DFL.cons df93 DFL.nil)
              replace hx := fun x hx_ => (hx x hx_).upL hs78 (DFL.cons df94 DFL.nil)
              replace pt74 := pt74.upL hs78 (DFL.cons df95 DFL.nil)
              replace oj77 := oj77.upL hs78 (DL.cons dj102.symm DL.nil)
              replace hm0 := (Mo.trL (ks := []) (hm0.mdn []) hs78 (MIL.cons (MI.app MI.z (nx96) (Nat.le_refl _)) MIL.nil)).nil
              replace hlm1 := (Mo.trL (ks := []) (hlm1.mdn []) hs78 (MIL.cons (MI.app MI.z (nx97) (Nat.le_refl _)) MIL.nil)).nil
              replace hq16 := hq16.trL hs78 (MIL.cons (MI.app (MI.root (by simp)) (nx107) (Nat.le_refl _)) MIL.nil)
              have hz19 := hs78.size
              have hle_ow := ow.le
              refine ⟨.inr hq16, LH.narrow (SH2 := fun Hq => Mo (Ms [k78]) H78 Hq) (fun Hq hq => hq16.trL hq (MIL.cons (MI.app (MI.root (by simp)) (nx114) (Nat.le_refl _)) MIL.nil)) ?_⟩
              have hq16 : Mo (Ms [k78]) H78 H78 := Mo.refl _ _
              have nx115 := Nx.refl k78 H78.size
              refine LH.take 10 (by kernel_rfl) rfl (by kernel_rfl) (by kernel_rfl) (by kernel_rfl) (fun Hq hq => Y.assign rfl rfl) (Wd.u rfl) rfl rfl hq16 ?_
              refine LH.done (by kernel_rfl) ?_
              refine hK20 _ _ ?_
              refine CW.region ?_
              refine LR.v (Y.move rfl rfl) (Wd.u rfl) rfl rfl ?_
              -- call selvage/selvageref14.mark
              refine LR.call rfl Try.call52 rfl (Wd.u rfl) rfl rfl (mark_ct 3 w0 _ (by decide)) (fun v80 H80 r80 => ?_)
              obtain ⟨rfl, hs80⟩ := r80
              replace hl := hl.nw hs80
              replace hx := fun x hx_ => (hx x hx_).nw hs80
              replace ow := ow.nw hs80
              replace hm0 := hm0.tr hs80
              replace hlm1 := hlm1.tr hs80
              have hz20 := hs80.size
              refine LR.z (Z.apndStr ow rfl inf22 Try.underlying9 rfl rfl (by have h1 := mk_len 3; have e1 := endL_le l[j].o.flatten; have e2 := endL_le l[j].b.flatten; have e3 := endL_le l[j].t.flatten; have e4 := mk_len 0; have e5 := mk_len 1; have e6 := mk_len 2; have h1 := hb1; have h2 := hb2; have h3 := hb3; simp only [Ck.c] at h1 h2 h3; (try simp only [List.length_append]); omega)) (Wd.u rfl) rfl rfl (fun v81 H81 r81 => ?_)
              obtain ⟨k81, ow, hk81, hs81⟩ := r81
              replace hk81 : Nx k78 H80.size k81 := hk81
              replace hs81 := hs81.md
              have df116 := DF.app (df108) (bf_hl.mono hm0.size) hk81
              have df117 := DF.app (df109) (bf_hx.mono hm0.size) hk81
              have nx118 : Nx 0 H0.size k81 := Nx.tr (nx112) hk81 hm0.size
              have nx119 : Nx 0 H0.size k81 := Nx.tr (nx113) hk81 hlm1.size
              replace hl := hl.upL hs81 (DFL.cons df108 DFL.nil)
              replace hx := fun x hx_ => (hx x hx_).upL hs81 (DFL.cons df109 DFL.nil)
              replace hm0 := (Mo.trL (ks := []) (hm0.mdn []) hs81 (MIL.cons (MI.app MI.z (nx112) (Nat.le_refl _)) MIL.nil)).nil
              replace hlm1 := (Mo.trL (ks := []) (hlm1.mdn []) hs81 (MIL.cons (MI.app MI.z (nx113) (Nat.le_refl _)) MIL.nil)).nil
              have hz21 := hs81.size
              have hle_ow := ow.le
              refine LR.v (Y.assign rfl rfl) (Wd.u rfl) rfl rfl ?_
              refine LR.nil ?_
              refine hK12 _ _ ?_
              refine hK10 _ _ ?_
              refine hK9 _ _ ?_
              refine CW.region ?_
              refine LR.v (Y.move rfl rfl) (Wd.u rfl) rfl rfl ?_
              refine LR.v (Y.addi rfl rfl rfl (by omega)) (Wd.u rfl) rfl rfl ?_
              refine LR.v (Y.assign rfl rfl) (Wd.u rfl) rfl rfl ?_
              refine LR.nil ?_
              have hrk := rendK l j hjl
              refine QN.sub (hN6 (j + 1, v81, k81) _ ?_ ?_) ⟨rfl, rfl, (iv (by omega)), trivial⟩
              · exact ⟨(by omega), by rw [hrk, r1_4 (by omega), ← List.append_assoc, ← List.append_assoc, ← List.append_assoc, ← List.append_assoc, ← List.append_assoc, ← List.append_assoc]; exact ow, nx119, hlm1⟩
              · first | omega | (simp only; omega) | (simp; omega)
            ·
              refine CW.skip ?_
              refine hK12 _ _ ?_
              refine hK10 _ _ ?_
              refine hK9 _ _ ?_
              refine CW.region ?_
              refine LR.v (Y.move rfl rfl) (Wd.u rfl) rfl rfl ?_
              refine LR.v (Y.addi rfl rfl rfl (by omega)) (Wd.u rfl) rfl rfl ?_
              refine LR.v (Y.assign rfl rfl) (Wd.u rfl) rfl rfl ?_
              refine LR.nil ?_
              have hrk := rendK l j hjl
              refine QN.sub (hN6 (j + 1, vo, ko) _ ?_ ?_) ⟨rfl, rfl, (iv (by omega)), trivial⟩
              · exact ⟨(by omega), by rw [hrk, r1_x (by omega) (by omega) (by omega) (by omega) (by omega), List.append_nil]; exact ow, nx4, hlm1⟩
              · first | omega | (simp only; omega) | (simp; omega)
      ·
        refine CW.region ?_
        refine LR.v (Y.eql rfl rfl rfl) (Wd.u rfl) rfl rfl ?_
        refine LR.v (Y.assign rfl rfl) (Wd.u rfl) rfl rfl ?_
        refine LR.nil ?_
        refine hK14 _ _ ?_
        refine CW.condp rfl (fun c26 => ?_) (fun c26 => ?_)
        ·
          refine CW.region ?_
          refine LR.v (Y.move rfl rfl) (Wd.u rfl) rfl rfl ?_
          refine LR.v (Y.move rfl rfl) (Wd.u rfl) rfl rfl ?_
          refine LR.v (Y.move rfl rfl) (Wd.u rfl) rfl rfl ?_
          refine LR.e (g := fun ad => .pointer (some ad)) (Y.indexAddrF hl (j) rfl Try.runUnderlying50 Try.sizeOf54 rfl rfl (by first | rfl | omega) (by first | omega | (simp; omega) | (simp; done))) (Wd.u rfl) rfl rfl (fun ad32 pt32 => ?_)
          have bf_pt32 := bf_hl
          refine LR.v (Y.fieldAddr pt32.pt rfl Try.runUnderlying54 rfl rfl Try.sizeOf32 (by decide) rfl) (Wd.u rfl) rfl rfl ?_
          refine LR.v (Y.load1 (pt32.pt.drop 2) rfl Try.isAgg32 rfl) (Wd.u rfl) rfl rfl ?_
          -- call selvage/selvageref12.Join
          refine LR.call rfl Try.call12 rfl (Wd.u rfl) rfl rfl (rjoin3 _ l[j].o w0 _ (hx l[j] (List.getElem_mem hjl)).o.any (by first | exact Nat.le_trans hb1 (by decide) | exact Nat.le_trans hb2 (by decide) | exact Nat.le_trans hb3 (by decide))) (fun v35 H35 r35 => ?_)
          obtain ⟨v35, k35, rfl, oj35, hk35, hs35⟩ := r35
          have df120 := DF.app (DF.z) (bf_hl.mono hm0.size) hk35
          have df121 := DF.app (DF.z) (bf_hx.mono hm0.size) hk35
          have dj122 : Dj ko k35 := Dj.app (Dj.z) ow.le hk35
          have df123 := DF.app (DF.z) (bf_pt32.mono hm0.size) hk35
          have nx124 : Nx 0 H0.size k35 := Nx.tr (Nx.refl 0 _) hk35 hm0.size
          have nx125 : Nx 0 H0.size k35 := Nx.tr (Nx.refl 0 _) hk35 hlm1.size
          replace hl := hl.nw hs35
          replace hx := fun x hx_ => (hx x hx_).nw hs35
          replace ow := ow.nw hs35
          replace pt32 := pt32.nw hs35
          replace hm0 := hm0.tr hs35
          replace hlm1 := hlm1.tr hs35
          have hz22 := hs35.size
          have hle_oj35 := oj35.le
          refine LR.z (Z.apnd ow oj35.rd rfl inf22 rfl rfl (by have h1 := hb1; have h2 := hb2; have h3 := hb3; simp only at h1 h2 h3; omega) (by have h1 := hb1; have h2 := hb2; have h3 := hb3; simp only at h1 h2 h3; omega)) (Wd.u rfl) rfl rfl (fun v36 H36 r36 => ?_)
          obtain ⟨k36, ow, hk36, hs36⟩ := r36
          replace hk36 : Nx ko H35.size k36 := hk36
          replace hs36 := hs36.md
          have df126 := DF.app (df1) (bf_hl.mono hm0.size) hk36
          have df127 := DF.app (df2) (bf_hx.mono hm0.size) hk36
          have df128 := DF.app (df1) (bf_pt32.mono hm0.size) hk36
          have dj129 : Dj k35 k36 := Dj.app (dj122.symm) oj35.le hk36
          have nx130 : Nx 0 H0.size k36 := Nx.tr (nx3) hk36 hm0.size
          have nx131 : Nx 0 H0.size k36 := Nx.tr (nx4) hk36 hlm1.size
          replace hl := hl.upL hs36 (DFL.cons df1 DFL.nil)
          replace hx := fun x hx_ => (hx x hx_).upL hs36 (DFL.cons df2 DFL.nil)
          replace pt32 := pt32.upL hs36 (DFL.cons df1 DFL.nil)
          replace oj35 := oj35.upL hs36 (DL.cons dj122.symm DL.nil)
          replace hm0 := (Mo.trL (ks := []) (hm0.mdn []) hs36 (MIL.cons (MI.app MI.z (nx3) (Nat.le_refl _)) MIL.nil)).nil
          replace hlm1 := (Mo.trL (ks := []) (hlm1.mdn []) hs36 (MIL.cons (MI.app MI.z (nx4) (Nat.le_refl _)) MIL.nil)).nil
          have hz23 := hs36.size
          have hle_ow := ow.le
          refine LR.v (Y.assign rfl rfl) (Wd.u rfl) rfl rfl ?_
          refine LR.nil ?_
          refine hK12 _ _ ?_
          refine hK10 _ _ ?_
          refine hK9 _ _ ?_
          refine CW.region ?_
          refine LR.v (Y.move rfl rfl) (Wd.u rfl) rfl rfl ?_
          refine LR.v (Y.addi rfl rfl rfl (by omega)) (Wd.u rfl) rfl rfl ?_
          refine LR.v (Y.assign rfl rfl) (Wd.u rfl) rfl rfl ?_
          refine LR.nil ?_
          have hrk := rendK l j hjl
          refine QN.sub (hN6 (j + 1, v36, k36) _ ?_ ?_) ⟨rfl, rfl, (iv (by omega)), trivial⟩
          · exact ⟨(by omega), by rw [hrk, r1_1 (by omega)]; exact ow, nx131, hlm1⟩
          · first | omega | (simp only; omega) | (simp; omega)
        ·
          refine CW.seq (fun K21 hK21 hE21 => ?_)
          refine CW.region ?_
          refine LR.v (Y.eql rfl rfl rfl) (Wd.u rfl) rfl rfl ?_
          refine LR.v (Y.assign rfl rfl) (Wd.u rfl) rfl rfl ?_
          refine LR.nil ?_
          refine hK21 _ _ ?_
          refine CW.condp rfl (fun c37 => ?_) (fun c37 => ?_)
          ·
            refine CW.region ?_
            refine LR.v (Y.move rfl rfl) (Wd.u rfl) rfl rfl ?_
            refine LR.v (Y.move rfl rfl) (Wd.u rfl) rfl rfl ?_
            refine LR.v (Y.move rfl rfl) (Wd.u rfl) rfl rfl ?_
            refine LR.e (g := fun ad => .pointer (some ad)) (Y.indexAddrF hl (j) rfl Try.runUnderlying50 Try.sizeOf54 rfl rfl (by first | rfl | omega) (by first | omega | (simp; omega) | (simp; done))) (Wd.u rfl) rfl rfl (fun ad42 pt42 => ?_)
            have bf_pt42 := bf_hl
            refine LR.v (Y.fieldAddr pt42.pt rfl Try.runUnderlying54 rfl rfl Try.sizeOf32 (by decide) rfl) (Wd.u rfl) rfl rfl ?_
            refine LR.v (Y.load1 (pt42.pt.drop 3) rfl Try.isAgg32 rfl) (Wd.u rfl) rfl rfl ?_
            -- call selvage/selvageref12.Join
            refine LR.call rfl Try.call12 rfl (Wd.u rfl) rfl rfl (rjoin3 _ l[j].t w0 _ (hx l[j] (List.getElem_mem hjl)).t.any (by first | exact Nat.le_trans hb1 (by decide) | exact Nat.le_trans hb2 (by decide) | exact Nat.le_trans hb3 (by decide))) (fun v45 H45 r45 => ?_)
            obtain ⟨v45, k45, rfl, oj45, hk45, hs45⟩ := r45
            have df132 := DF.app (DF.z) (bf_hl.mono hm0.size) hk45
            have df133 := DF.app (DF.z) (bf_hx.mono hm0.size) hk45
            have dj134 : Dj ko k45 := Dj.app (Dj.z) ow.le hk45
            have df135 := DF.app (DF.z) (bf_pt42.mono hm0.size) hk45
            have nx136 : Nx 0 H0.size k45 := Nx.tr (Nx.refl 0 _) hk45 hm0.size
            have nx137 : Nx 0 H0.size k45 := Nx.tr (Nx.refl 0 _) hk45 hlm1.size
            replace hl := hl.nw hs45
            replace hx := fun x hx_ => (hx x hx_).nw hs45
            replace ow := ow.nw hs45
            replace pt42 := pt42.nw hs45
            replace hm0 := hm0.tr hs45
            replace hlm1 := hlm1.tr hs45
            have hz24 := hs45.size
            have hle_oj45 := oj45.le
            refine LR.z (Z.apnd ow oj45.rd rfl inf22 rfl rfl (by have h1 := hb1; have h2 := hb2; have h3 := hb3; simp only at h1 h2 h3; omega) (by have h1 := hb1; have h2 := hb2; have h3 := hb3; simp only at h1 h2 h3; omega)) (Wd.u rfl) rfl rfl (fun v46 H46 r46 => ?_)
            obtain ⟨k46, ow, hk46, hs46⟩ := r46
            replace hk46 : Nx ko H45.size k46 := hk46
            replace hs46 := hs46.md
            have df138 := DF.app (df1) (bf_hl.mono hm0.size) hk46
            have df139 := DF.app (df2) (bf_hx.mono hm0.size) hk46
            have df140 := DF.app (df1) (bf_pt42.mono hm0.size) hk46
            have dj141 : Dj k45 k46 := Dj.app (dj134.symm) oj45.le hk46
            have nx142 : Nx 0 H0.size k46 := Nx.tr (nx3) hk46 hm0.size
            have nx143 : Nx 0 H0.size k46 := Nx.tr (nx4) hk46 hlm1.size
            replace hl := hl.upL hs46 (DFL.cons df1 DFL.nil)
            replace hx := fun x hx_ => (hx x hx_).upL hs46 (DFL.cons df2 DFL.nil)
            replace pt42 := pt42.upL hs46 (DFL.cons df1 DFL.nil)
            replace oj45 := oj45.upL hs46 (DL.cons dj134.symm DL.nil)
            replace hm0 := (Mo.trL (ks := []) (hm0.mdn []) hs46 (MIL.cons (MI.app MI.z (nx3) (Nat.le_refl _)) MIL.nil)).nil
            replace hlm1 := (Mo.trL (ks := []) (hlm1.mdn []) hs46 (MIL.cons (MI.app MI.z (nx4) (Nat.le_refl _)) MIL.nil)).nil
            have hz25 := hs46.size
            have hle_ow := ow.le
            refine LR.v (Y.assign rfl rfl) (Wd.u rfl) rfl rfl ?_
            refine LR.nil ?_
            refine hK12 _ _ ?_
            refine hK10 _ _ ?_
            refine hK9 _ _ ?_
            refine CW.region ?_
            refine LR.v (Y.move rfl rfl) (Wd.u rfl) rfl rfl ?_
            refine LR.v (Y.addi rfl rfl rfl (by omega)) (Wd.u rfl) rfl rfl ?_
            refine LR.v (Y.assign rfl rfl) (Wd.u rfl) rfl rfl ?_
            refine LR.nil ?_
            have hrk := rendK l j hjl
            refine QN.sub (hN6 (j + 1, v46, k46) _ ?_ ?_) ⟨rfl, rfl, (iv (by omega)), trivial⟩
            · exact ⟨(by omega), by rw [hrk, r1_2 (by omega)]; exact ow, nx143, hlm1⟩
            · first | omega | (simp only; omega) | (simp; omega)
          ·
            refine CW.seq (fun K22 hK22 hE22 => ?_)
            refine CW.region ?_
            refine LR.v (Y.eql rfl rfl rfl) (Wd.u rfl) rfl rfl ?_
            refine LR.v (Y.assign rfl rfl) (Wd.u rfl) rfl rfl ?_
            refine LR.nil ?_
            refine hK22 _ _ ?_
            refine CW.condp rfl (fun c47 => ?_) (fun c47 => ?_)
            ·
              refine CW.seq (fun K23 hK23 hE23 => ?_)
              refine CW.region_any (fun Hq => Mo (Ms [ko]) HL1 Hq) [] rfl ?_
              have hq14 : Mo (Ms [ko]) HL1 HL1 := Mo.refl _ _
              have nx144 := Nx.refl ko HL1.size
              refine LH.take 0 (by kernel_rfl) rfl (by kernel_rfl) (by kernel_rfl) (by kernel_rfl) (fun Hq hq => Y.move rfl rfl) (Wd.u rfl) rfl rfl hq14 ?_
              refine LH.take 3 (by kernel_rfl) rfl (by kernel_rfl) (by kernel_rfl) (by kernel_rfl) (fun Hq hq => Y.move rfl rfl) (Wd.u rfl) rfl rfl hq14 ?_
              refine LH.take 4 (by kernel_rfl) rfl (by kernel_rfl) (by kernel_rfl) (by kernel_rfl) (fun Hq hq => Y.move rfl rfl) (Wd.u rfl) rfl rfl hq14 ?_
              refine LH.e (g := fun ad => .pointer (some ad)) 5 (by kernel_rfl) rfl (by kernel_rfl) (by kernel_rfl) (by kernel_rfl) (Y.indexAddrF hl (j) rfl Try.runUnderlying50 Try.sizeOf54 rfl rfl (by first | rfl | omega) (by first | omega | (simp; omega) | (simp; done))) (Wd.u rfl) rfl rfl hq14 (fun ad54 pt54 => ?_)
              have bf_pt54 := bf_hl
              refine LH.take 6 (by kernel_rfl) rfl (by kernel_rfl) (by kernel_rfl) (by kernel_rfl) (fun Hq hq => Y.fieldAddr (pt54.upL hq (DFL.cons df1 DFL.nil)).pt rfl Try.runUnderlying54 rfl rfl Try.sizeOf32 (by decide) rfl) (Wd.u rfl) rfl rfl hq14 ?_
              refine LH.take 7 (by kernel_rfl) rfl (by kernel_rfl) (by kernel_rfl) (by kernel_rfl) (fun Hq hq => Y.load1 ((pt54.upL hq (DFL.cons df1 DFL.nil)).pt.drop 2) rfl Try.isAgg32 rfl) (Wd.u rfl) rfl rfl hq14 ?_
              refine LH.one (i := 1) (by kernel_rfl) ?_
              -- call selvage/selvageref14.mark
              refine LO.call rfl rfl Try.call52 rfl (Wd.u rfl) rfl rfl (mark_ct 0 w0 _ (by decide)) (fun v50 H50 r50 => ?_)
              obtain ⟨rfl, hs50⟩ := r50
              replace hl := hl.nw hs50
              replace hx := fun x hx_ => (hx x hx_).nw hs50
              replace ow := ow.nw hs50
              replace pt54 := pt54.nw hs50
              replace hm0 := hm0.tr hs50
              replace hlm1 := hlm1.tr hs50
              replace hq14 := hq14.trN hs50
              have hz26 := hs50.size
              refine ⟨.inr hq14, LH.narrow (SH2 := fun Hq => Mo (Ms [ko]) H50 Hq) (fun Hq hq => hq14.trL hq (MIL.cons (MI.app (MI.root (by simp)) (nx144) (Nat.le_refl _)) MIL.nil)) ?_⟩
              have hq14 : Mo (Ms [ko]) H50 H50 := Mo.refl _ _
              have nx145 := Nx.refl ko H50.size
              refine LH.one (i := 2) (by kernel_rfl) ?_
              refine LO.z rfl (Z.apndStr ow rfl inf22 Try.underlying9 rfl rfl (by have h1 := mk_len 0; have e1 := endL_le l[j].o.flatten; have e2 := endL_le l[j].b.flatten; have e3 := endL_le l[j].t.flatten; have e4 := mk_len 0; have e5 := mk_len 1; have e6 := mk_len 2; have h1 := hb1; have h2 := hb2; have h3 := hb3; simp only [Ck.c] at h1 h2 h3; (try simp only [List.length_append]); omega)) (Wd.u rfl) rfl rfl (fun v51 H51 r51 => ?_)
              obtain ⟨k51, ow, hk51, hs51⟩ := r51
              replace hk51 : Nx ko H50.size k51 := hk51
              replace hs51 := hs51.md
              have df146 := DF.app (df1) (bf_hl.mono hm0.size) hk51
              have df147 := DF.app (df2) (bf_hx.mono hm0.size) hk51
              have df148 := DF.app (df1) (bf_pt54.mono hm0.size) hk51
              have nx149 : Nx 0 H0.size k51 := Nx.tr (nx3) hk51 hm0.size
              have nx150 : Nx 0 H0.size k51 := Nx.tr (nx4) hk51 hlm1.size
              have nx151 : Nx ko H50.size k51 := Nx.tr (nx145) hk51 hq14.size
              replace hl := hl.upL hs51 (DFL.cons df1 DFL.nil)
              replace hx := fun x hx_ => (hx x hx_).upL hs51 (DFL.cons df2 DFL.nil)
              replace pt54 := pt54.upL hs51 (DFL.cons df1 DFL.nil)
              replace hm0 := (Mo.trL (ks := []) (hm0.mdn []) hs51 (MIL.cons (MI.app MI.z (nx3) (Nat.le_refl _)) MIL.nil)).nil
              replace hlm1 := (Mo.trL (ks := []) (hlm1.mdn []) hs51 (MIL.cons (MI.app MI.z (nx4) (Nat.le_refl _)) MIL.nil)).nil
              replace hq14 := hq14.trL hs51 (MIL.cons (MI.app (MI.root (by simp)) (nx145) (Nat.le_refl _)) MIL.nil)
              have hz27 := hs51.size
              have hle_ow := ow.le
              refine ⟨.inr hq14, LH.narrow (SH2 := fun Hq => Mo (Ms [k51]) H51 Hq) (fun Hq hq => hq14.trL hq (MIL.cons (MI.app (MI.root (by simp)) (nx151) (Nat.le_refl _)) MIL.nil)) ?_⟩
              have hq14 : Mo (Ms [k51]) H51 H51 := Mo.refl _ _
              have nx152 := Nx.refl k51 H51.size
              refine LH.one (i := 8) (by kernel_rfl) ?_
              -- call selvage/selvageref14.ended
              refine LO.call rfl rfl Try.call53 rfl (Wd.u rfl) rfl rfl (ended_ct _ l[j].o w0 _ (hx l[j] (List.getElem_mem hjl)).o.any hb2) (fun v57 H57 r57 => ?_)
              obtain ⟨v257, k257, rfl, oj57, hk57, hs57⟩ := r57
              have df153 := DF.app (DF.z) (bf_hl.mono hm0.size) hk57
              have df154 := DF.app (DF.z) (bf_hx.mono hm0.size) hk57
              have dj155 : Dj k51 k257 := Dj.app (Dj.z) ow.le hk57
              have df156 := DF.app (DF.z) (bf_pt54.mono hm0.size) hk57
              have nx157 : Nx 0 H0.size k257 := Nx.tr (Nx.refl 0 _) hk57 hm0.size
              have nx158 : Nx 0 H0.size k257 := Nx.tr (Nx.refl 0 _) hk57 hlm1.size
              have nx159 : Nx 0 H51.size k257 := Nx.tr (Nx.refl 0 _) hk57 hq14.size
              replace hl := hl.nw hs57
              replace hx := fun x hx_ => (hx x hx_).nw hs57
              replace ow := ow.nw hs57
              replace pt54 := pt54.nw hs57
              replace hm0 := hm0.tr hs57
              replace hlm1 := hlm1.tr hs57
              replace hq14 := hq14.trN hs57
              have hz28 := hs57.size
              have hle_oj57 := oj57.le
              refine ⟨.inr hq14, LH.narrow (SH2 := fun Hq => Mo (Ms [k51]) H57 Hq) (fun Hq hq => hq14.trL hq (MIL.cons (MI.app (MI.root (by simp)) (nx152) (Nat.le_refl _)) MIL.nil)) ?_⟩
              have hq14 : Mo (Ms [k51]) H57 H57 := Mo.refl _ _
              have nx160 := Nx.refl k51 H57.size
              refine LH.one (i := 9) (by kernel_rfl) ?_
              refine LO.z rfl (Z.apnd ow oj57.rd rfl inf22 rfl rfl (by have h1 := mk_len 0; have e1 := endL_le l[j].o.flatten; have e2 := endL_le l[j].b.flatten; have e3 := endL_le l[j].t.flatten; have e4 := mk_len 0; have e5 := mk_len 1; have e6 := mk_len 2; have h1 := hb1; have h2 := hb2; have h3 := hb3; simp only [Ck.c] at h1 h2 h3; (try simp only [List.length_append]); omega) (by have h1 := mk_len 0; have e1 := endL_le l[j].o.flatten; have e2 := endL_le l[j].b.flatten; have e3 := endL_le l[j].t.flatten; have e4 := mk_len 0; have e5 := mk_len 1; have e6 := mk_len 2; have h1 := hb1; have h2 := hb2; have h3 := hb3; simp only [Ck.c] at h1 h2 h3; (try simp only [List.length_append]); omega)) (Wd.u rfl) rfl rfl (fun v58 H58 r58 => ?_)
              obtain ⟨k58, ow, hk58, hs58⟩ := r58
              replace hk58 : Nx k51 H57.size k58 := hk58
              replace hs58 := hs58.md
              have df161 := DF.app (df146) (bf_hl.mono hm0.size) hk58
              have df162 := DF.app (df147) (bf_hx.mono hm0.size) hk58
              have df163 := DF.app (df148) (bf_pt54.mono hm0.size) hk58
              have dj164 : Dj k257 k58 := Dj.app (dj155.symm) oj57.le hk58
              have nx165 : Nx 0 H0.size k58 := Nx.tr (nx149) hk58 hm0.size
              have nx166 : Nx 0 H0.size k58 := Nx.tr (nx150) hk58 hlm1.size
              have nx167 : Nx k51 H57.size k58 := Nx.tr (nx160) hk58 hq14.size
              replace hl := hl.upL hs58 (DFL.cons df146 DFL.nil)
              replace hx := fun x hx_ => (hx x hx_).upL hs58 (DFL.cons df147 DFL.nil)
              replace pt54 := pt54.upL hs58 (DFL.cons df148 DFL.nil)
              replace oj57 := oj57.upL hs58 (DL.cons dj155.symm DL.nil)
              replace hm0 := (Mo.trL (ks := []) (hm0.mdn []) hs58 (MIL.cons (MI.app MI.z (nx149) (Nat.le_refl _)) MIL.nil)).nil
              replace hlm1 := (Mo.trL (ks := []) (hlm1.mdn []) hs58 (MIL.cons (MI.app MI.z (nx150) (Nat.le_refl _)) MIL.nil)).nil
              replace hq14 := hq14.trL hs58 (MIL.cons (MI.app (MI.root (by simp)) (nx160) (Nat.le_refl _)) MIL.nil)
              have hz29 := hs58.size
              have hle_ow := ow.le
              refine ⟨.inr hq14, LH.narrow (SH2 := fun Hq => Mo (Ms [k58]) H58 Hq) (fun Hq hq => hq14.trL hq (MIL.cons (MI.app (MI.root (by simp)) (nx167) (Nat.le_refl _)) MIL.nil)) ?_⟩
              have hq14 : Mo (Ms [k58]) H58 H58 := Mo.refl _ _
              have nx168 := Nx.refl k58 H58.size
              refine LH.take 10 (by kernel_rfl) rfl (by kernel_rfl) (by kernel_rfl) (by kernel_rfl) (fun Hq hq => Y.assign rfl rfl) (Wd.u rfl) rfl rfl hq14 ?_
              refine LH.done (by kernel_rfl) ?_
              refine hK23 _ _ ?_
              refine CW.seq (fun K24 hK24 hE24 => ?_)
              refine CW.region_any (fun Hq => Mo (Ms [k58]) H58 Hq) [] rfl ?_
              have hq15 : Mo (Ms [k58]) H58 H58 := Mo.refl _ _
              have nx169 := Nx.refl k58 H58.size
              refine LH.take 0 (by kernel_rfl) rfl (by kernel_rfl) (by kernel_rfl) (by kernel_rfl) (fun Hq hq => Y.move rfl rfl) (Wd.u rfl) rfl rfl hq15 ?_
              refine LH.take 3 (by kernel_rfl) rfl (by kernel_rfl) (by kernel_rfl) (by kernel_rfl) (fun Hq hq => Y.move rfl rfl) (Wd.u rfl) rfl rfl hq15 ?_
              refine LH.take 4 (by kernel_rfl) rfl (by kernel_rfl) (by kernel_rfl) (by kernel_rfl) (fun Hq hq => Y.move rfl rfl) (Wd.u rfl) rfl rfl hq15 ?_
              refine LH.e (g := fun ad => .pointer (some ad)) 5 (by kernel_rfl) rfl (by kernel_rfl) (by kernel_rfl) (by kernel_rfl) (Y.indexAddrF hl (j) rfl Try.runUnderlying50 Try.sizeOf54 rfl rfl (by first | rfl | omega) (by first | omega | (simp; omega) | (simp; done))) (Wd.u rfl) rfl rfl hq15 (fun ad64 pt64 => ?_)
              have bf_pt64 := bf_hl
              refine LH.take 6 (by kernel_rfl) rfl (by kernel_rfl) (by kernel_rfl) (by kernel_rfl) (fun Hq hq => Y.fieldAddr (pt64.upL hq (DFL.cons df161 DFL.nil)).pt rfl Try.runUnderlying54 rfl rfl Try.sizeOf32 (by decide) rfl) (Wd.u rfl) rfl rfl hq15 ?_
              refine LH.take 7 (by kernel_rfl) rfl (by kernel_rfl) (by kernel_rfl) (by kernel_rfl) (fun Hq hq => Y.load1 ((pt64.upL hq (DFL.cons df161 DFL.nil)).pt.drop 1) rfl Try.isAgg32 rfl) (Wd.u rfl) rfl rfl hq15 ?_
              refine LH.one (i := 1) (by kernel_rfl) ?_
              -- call selvage/selvageref14.mark
              refine LO.call rfl rfl Try.call52 rfl (Wd.u rfl) rfl rfl (mark_ct 1 w0 _ (by decide)) (fun v60 H60 r60 => ?_)
              obtain ⟨rfl, hs60⟩ := r60
              replace hl := hl.nw hs60
              replace hx := fun x hx_ => (hx x hx_).nw hs60
              replace ow := ow.nw hs60
              replace pt64 := pt64.nw hs60
              replace hm0 := hm0.tr hs60
              replace hlm1 := hlm1.tr hs60
              replace hq15 := hq15.trN hs60
              have hz30 := hs60.size
              refine ⟨.inr hq15, LH.narrow (SH2 := fun Hq => Mo (Ms [k58]) H60 Hq) (fun Hq hq => hq15.trL hq (MIL.cons (MI.app (MI.root (by simp)) (nx169) (Nat.le_refl _)) MIL.nil)) ?_⟩
              have hq15 : Mo (Ms [k58]) H60 H60 := Mo.refl _ _
              have nx170 := Nx.refl k58 H60.size
              refine LH.one (i := 2) (by kernel_rfl) ?_
              refine LO.z rfl (Z.apndStr ow rfl inf22 Try.underlying9 rfl rfl (by have h1 := mk_len 1; have e1 := endL_le l[j].o.flatten; have e2 := endL_le l[j].b.flatten; have e3 := endL_le l[j].t.flatten; have e4 := mk_len 0; have e5 := mk_len 1; have e6 := mk_len 2; have h1 := hb1; have h2 := hb2; have h3 := hb3; simp only [Ck.c] at h1 h2 h3; (try simp only [List.length_append]); omega)) (Wd.u rfl) rfl rfl (fun v61 H61 r61 => ?_)
              obtain ⟨k61, ow, hk61, hs61⟩ := r61
              replace hk61 : Nx k58 H60.size k61 := hk61
              replace hs61 := hs61.md
              have df171 := DF.app (df161) (bf_hl.mono hm0.size) hk61
              have df172 := DF.app (df162) (bf_hx.mono hm0.size) hk61
              have df173 := DF.app (df161) (bf_pt64.mono hm0.size) hk61
              have nx174 : Nx 0 H0.size k61 := Nx.tr (nx165) hk61 hm0.size
              have nx175 : Nx 0 H0.size k61 := Nx.tr (nx166) hk61 hlm1.size
              have nx176 : Nx k58 H60.size k61 := Nx.tr (nx170) hk61 hq15.size
              replace hl := hl.upL hs61 (DFL.cons df161 DFL.nil)
              replace hx := fun x hx_ => (hx x hx_).upL hs61 (DFL.cons df162 DFL.nil)
              replace pt64 := pt64.upL hs61 (DFL.cons df161 DFL.nil)
              replace hm0 := (Mo.trL (ks := []) (hm0.mdn []) hs61 (MIL.cons (MI.app MI.z (nx165) (Nat.le_refl _)) MIL.nil)).nil
              replace hlm1 := (Mo.trL (ks := []) (hlm1.mdn []) hs61 (MIL.cons (MI.app MI.z (nx166) (Nat.le_refl _)) MIL.nil)).nil
              replace hq15 := hq15.trL hs61 (MIL.cons (MI.app (MI.root (by simp)) (nx170) (Nat.le_refl _)) MIL.nil)
              have hz31 := hs61.size
              have hle_ow := ow.le
              refine ⟨.inr hq15, LH.narrow (SH2 := fun Hq => Mo (Ms [k61]) H61 Hq) (fun Hq hq => hq15.trL hq (MIL.cons (MI.app (MI.root (by simp)) (nx176) (Nat.le_refl _)) MIL.nil)) ?_⟩
              have hq15 : Mo (Ms [k61]) H61 H61 := Mo.refl _ _
              have nx177 := Nx.refl k61 H61.size
              refine LH.one (i := 8) (by kernel_rfl) ?_
              -- call selvage/selvageref14.ended
              refine LO.call rfl rfl Try.call53 rfl (Wd.u rfl) rfl rfl (ended_ct _ l[j].b w0 _ (hx l[j] (List.getElem_mem hjl)).b.any hb1) (fun v67 H67 r67 => ?_)
              obtain ⟨v267, k267, rfl, oj67, hk67, hs67⟩ := r67
              have df178 := DF.app (DF.z) (bf_hl.mono hm0.size) hk67
              have df179 := DF.app (DF.z) (bf_hx.mono hm0.size) hk67
              have dj180 : Dj k61 k267 := Dj.app (Dj.z) ow.le hk67
              have df181 := DF.app (DF.z) (bf_pt64.mono hm0.size) hk67
              have nx182 : Nx 0 H0.size k267 := Nx.tr (Nx.refl 0 _) hk67 hm0.size
              have nx183 : Nx 0 H0.size k267 := Nx.tr (Nx.refl 0 _) hk67 hlm1.size
              have nx184 : Nx 0 H61.size k267 := Nx.tr (Nx.refl 0 _) hk67 hq15.size
              replace hl := hl.nw hs67
              replace hx := fun x hx_ => (hx x hx_).nw hs67
              replace ow := ow.nw hs67
              replace pt64 := pt64.nw hs67
              replace hm0 := hm0.tr hs67
              replace hlm1 := hlm1.tr hs67
              replace hq15 := hq15.trN hs67
              have hz32 := hs67.size
              have hle_oj67 := oj67.le
              refine ⟨.inr hq15, LH.narrow (SH2 := fun Hq => Mo (Ms [k61]) H67 Hq) (fun Hq hq => hq15.trL hq (MIL.cons (MI.app (MI.root (by simp)) (nx177) (Nat.le_refl _)) MIL.nil)) ?_⟩
              have hq15 : Mo (Ms [k61]) H67 H67 := Mo.refl _ _
              have nx185 := Nx.refl k61 H67.size
              refine LH.one (i := 9) (by kernel_rfl) ?_
              refine LO.z rfl (Z.apnd ow oj67.rd rfl inf22 rfl rfl (by have h1 := mk_len 1; have e1 := endL_le l[j].o.flatten; have e2 := endL_le l[j].b.flatten; have e3 := endL_le l[j].t.flatten; have e4 := mk_len 0; have e5 := mk_len 1; have e6 := mk_len 2; have h1 := hb1; have h2 := hb2; have h3 := hb3; simp only [Ck.c] at h1 h2 h3; (try simp only [List.length_append]); omega) (by have h1 := mk_len 1; have e1 := endL_le l[j].o.flatten; have e2 := endL_le l[j].b.flatten; have e3 := endL_le l[j].t.flatten; have e4 := mk_len 0; have e5 := mk_len 1; have e6 := mk_len 2; have h1 := hb1; have h2 := hb2; have h3 := hb3; simp only [Ck.c] at h1 h2 h3; (try simp only [List.length_append]); omega)) (Wd.u rfl) rfl rfl (fun v68 H68 r68 => ?_)
              obtain ⟨k68, ow, hk68, hs68⟩ := r68
              replace hk68 : Nx k61 H67.size k68 := hk68
              replace hs68 := hs68.md
              have df186 := DF.app (df171) (bf_hl.mono hm0.size) hk68
              have df187 := DF.app (df172) (bf_hx.mono hm0.size) hk68
              have df188 := DF.app (df173) (bf_pt64.mono hm0.size) hk68
              have dj189 : Dj k267 k68 := Dj.app (dj180.symm) oj67.le hk68
              have nx190 : Nx 0 H0.size k68 := Nx.tr (nx174) hk68 hm0.size
              have nx191 : Nx 0 H0.size k68 := Nx.tr (nx175) hk68 hlm1.size
              have nx192 : Nx k61 H67.size k68 := Nx.tr (nx185) hk68 hq15.size
              replace hl := hl.upL hs68 (DFL.cons df171 DFL.nil)
              replace hx := fun x hx_ => (hx x hx_).upL hs68 (DFL.cons df172 DFL.nil)
              replace pt64 := pt64.upL hs68 (DFL.cons df173 DFL.nil)
              replace oj67 := oj67.upL hs68 (DL.cons dj180.symm DL.nil)
              replace hm0 := (Mo.trL (ks := []) (hm0.mdn []) hs68 (MIL.cons (MI.app MI.z (nx174) (Nat.le_refl _)) MIL.nil)).nil
              replace hlm1 := (Mo.trL (ks := []) (hlm1.mdn []) hs68 (MIL.cons (MI.app MI.z (nx175) (Nat.le_refl _)) MIL.nil)).nil
              replace hq15 := hq15.trL hs68 (MIL.cons (MI.app (MI.root (by simp)) (nx185) (Nat.le_refl _)) MIL.nil)
              have hz33 := hs68.size
              have hle_ow := ow.le
              refine ⟨.inr hq15, LH.narrow (SH2 := fun Hq => Mo (Ms [k68]) H68 Hq) (fun Hq hq => hq15.trL hq (MIL.cons (MI.app (MI.root (by simp)) (nx192) (Nat.le_refl _)) MIL.nil)) ?_⟩
              have hq15 : Mo (Ms [k68]) H68 H68 := Mo.refl _ _
              have nx193 := Nx.refl k68 H68.size
              refine LH.take 10 (by kernel_rfl) rfl (by kernel_rfl) (by kernel_rfl) (by kernel_rfl) (fun Hq hq => Y.assign rfl rfl) (Wd.u rfl) rfl rfl hq15 ?_
              refine LH.done (by kernel_rfl) ?_
              refine hK24 _ _ ?_
              refine CW.seq (fun K25 hK25 hE25 => ?_)
              refine CW.region_any (fun Hq => Mo (Ms [k68]) H68 Hq) [] rfl ?_
              have hq16 : Mo (Ms [k68]) H68 H68 := Mo.refl _ _
              have nx194 := Nx.refl k68 H68.size
              refine LH.take 0 (by kernel_rfl) rfl (by kernel_rfl) (by kernel_rfl) (by kernel_rfl) (fun Hq hq => Y.move rfl rfl) (Wd.u rfl) rfl rfl hq16 ?_
              refine LH.take 3 (by kernel_rfl) rfl (by kernel_rfl) (by kernel_rfl) (by kernel_rfl) (fun Hq hq => Y.move rfl rfl) (Wd.u rfl) rfl rfl hq16 ?_
              refine LH.take 4 (by kernel_rfl) rfl (by kernel_rfl) (by kernel_rfl) (by kernel_rfl) (fun Hq hq => Y.move rfl rfl) (Wd.u rfl) rfl rfl hq16 ?_
              refine LH.e (g := fun ad => .pointer (some ad)) 5 (by kernel_rfl) rfl (by kernel_rfl) (by kernel_rfl) (by kernel_rfl) (Y.indexAddrF hl (j) rfl Try.runUnderlying50 Try.sizeOf54 rfl rfl (by first | rfl | omega) (by first | omega | (simp; omega) | (simp; done))) (Wd.u rfl) rfl rfl hq16 (fun ad74 pt74 => ?_)
              have bf_pt74 := bf_hl
              refine LH.take 6 (by kernel_rfl) rfl (by kernel_rfl) (by kernel_rfl) (by kernel_rfl) (fun Hq hq => Y.fieldAddr (pt74.upL hq (DFL.cons df186 DFL.nil)).pt rfl Try.runUnderlying54 rfl rfl Try.sizeOf32 (by decide) rfl) (Wd.u rfl) rfl rfl hq16 ?_
              refine LH.take 7 (by kernel_rfl) rfl (by kernel_rfl) (by kernel_rfl) (by kernel_rfl) (fun Hq hq => Y.load1 ((pt74.upL hq (DFL.cons df186 DFL.nil)).pt.drop 3) rfl Try.isAgg32 rfl) (Wd.u rfl) rfl rfl hq16 ?_
              refine LH.one (i := 1) (by kernel_rfl) ?_
              -- call selvage/selvageref14.mark
              refine LO.call rfl rfl Try.call52 rfl (Wd.u rfl) rfl rfl (mark_ct 2 w0 _ (by decide)) (fun v70 H70 r70 => ?_)
              obtain ⟨rfl, hs70⟩ := r70
              replace hl := hl.nw hs70
              replace hx := fun x hx_ => (hx x hx_).nw hs70
              replace ow := ow.nw hs70
              replace pt74 := pt74.nw hs70
              replace hm0 := hm0.tr hs70
              replace hlm1 := hlm1.tr hs70
              replace hq16 := hq16.trN hs70
              have hz34 := hs70.size
              refine ⟨.inr hq16, LH.narrow (SH2 := fun Hq => Mo (Ms [k68]) H70 Hq) (fun Hq hq => hq16.trL hq (MIL.cons (MI.app (MI.root (by simp)) (nx194) (Nat.le_refl _)) MIL.nil)) ?_⟩
              have hq16 : Mo (Ms [k68]) H70 H70 := Mo.refl _ _
              have nx195 := Nx.refl k68 H70.size
              refine LH.one (i := 2) (by kernel_rfl) ?_
              refine LO.z rfl (Z.apndStr ow rfl inf22 Try.underlying9 rfl rfl (by have h1 := mk_len 2; have e1 := endL_le l[j].o.flatten; have e2 := endL_le l[j].b.flatten; have e3 := endL_le l[j].t.flatten; have e4 := mk_len 0; have e5 := mk_len 1; have e6 := mk_len 2; have h1 := hb1; have h2 := hb2; have h3 := hb3; simp only [Ck.c] at h1 h2 h3; (try simp only [List.length_append]); omega)) (Wd.u rfl) rfl rfl (fun v71 H71 r71 => ?_)
              obtain ⟨k71, ow, hk71, hs71⟩ := r71
              replace hk71 : Nx k68 H70.size k71 := hk71
              replace hs71 := hs71.md
              have df196 := DF.app (df186) (bf_hl.mono hm0.size) hk71
              have df197 := DF.app (df187) (bf_hx.mono hm0.size) hk71
              have df198 := DF.app (df186) (bf_pt74.mono hm0.size) hk71
              have nx199 : Nx 0 H0.size k71 := Nx.tr (nx190) hk71 hm0.size
              have nx200 : Nx 0 H0.size k71 := Nx.tr (nx191) hk71 hlm1.size
              have nx201 : Nx k68 H70.size k71 := Nx.tr (nx195) hk71 hq16.size
              replace hl := hl.upL hs71 (DFL.cons df186 DFL.nil)
              replace hx := fun x hx_ => (hx x hx_).upL hs71 (DFL.cons df187 DFL.nil)
              replace pt74 := pt74.upL hs71 (DFL.cons df186 DFL.nil)
              replace hm0 := (Mo.trL (ks := []) (hm0.mdn []) hs71 (MIL.cons (MI.app MI.z (nx190) (Nat.le_refl _)) MIL.nil)).nil
              replace hlm1 := (Mo.trL (ks := []) (hlm1.mdn []) hs71 (MIL.cons (MI.app MI.z (nx191) (Nat.le_refl _)) MIL.nil)).nil
              replace hq16 := hq16.trL hs71 (MIL.cons (MI.app (MI.root (by simp)) (nx195) (Nat.le_refl _)) MIL.nil)
              have hz35 := hs71.size
              have hle_ow := ow.le
              refine ⟨.inr hq16, LH.narrow (SH2 := fun Hq => Mo (Ms [k71]) H71 Hq) (fun Hq hq => hq16.trL hq (MIL.cons (MI.app (MI.root (by simp)) (nx201) (Nat.le_refl _)) MIL.nil)) ?_⟩
              have hq16 : Mo (Ms [k71]) H71 H71 := Mo.refl _ _
              have nx202 := Nx.refl k71 H71.size
              refine LH.one (i := 8) (by kernel_rfl) ?_
              -- call selvage/selvageref14.ended
              refine LO.call rfl rfl Try.call53 rfl (Wd.u rfl) rfl rfl (ended_ct _ l[j].t w0 _ (hx l[j] (List.getElem_mem hjl)).t.any hb3) (fun v77 H77 r77 => ?_)
              obtain ⟨v277, k277, rfl, oj77, hk77, hs77⟩ := r77
              have df203 := DF.app (DF.z) (bf_hl.mono hm0.size) hk77
              have df204 := DF.app (DF.z) (bf_hx.mono hm0.size) hk77
              have dj205 : Dj k71 k277 := Dj.app (Dj.z) ow.le hk77
              have df206 := DF.app (DF.z) (bf_pt74.mono hm0.size) hk77
              have nx207 : Nx 0 H0.size k277 := Nx.tr (Nx.refl 0 _) hk77 hm0.size
              have nx208 : Nx 0 H0.size k277 := Nx.tr (Nx.refl 0 _) hk77 hlm1.size
              have nx209 : Nx 0 H71.size k277 := Nx.tr (Nx.refl 0 _) hk77 hq16.size
              replace hl := hl.nw hs77
              replace hx := fun x hx_ => (hx x hx_).nw hs77
              replace ow := ow.nw hs77
              replace pt74 := pt74.nw hs77
              replace hm0 := hm0.tr hs77
              replace hlm1 := hlm1.tr hs77
              replace hq16 := hq16.trN hs77
              have hz36 := hs77.size
              have hle_oj77 := oj77.le
              refine ⟨.inr hq16, LH.narrow (SH2 := fun Hq => Mo (Ms [k71]) H77 Hq) (fun Hq hq => hq16.trL hq (MIL.cons (MI.app (MI.root (by simp)) (nx202) (Nat.le_refl _)) MIL.nil)) ?_⟩
              have hq16 : Mo (Ms [k71]) H77 H77 := Mo.refl _ _
              have nx210 := Nx.refl k71 H77.size
              refine LH.one (i := 9) (by kernel_rfl) ?_
              refine LO.z rfl (Z.apnd ow oj77.rd rfl inf22 rfl rfl (by have h1 := mk_len 2; have e1 := endL_le l[j].o.flatten; have e2 := endL_le l[j].b.flatten; have e3 := endL_le l[j].t.flatten; have e4 := mk_len 0; have e5 := mk_len 1; have e6 := mk_len 2; have h1 := hb1; have h2 := hb2; have h3 := hb3; simp only [Ck.c] at h1 h2 h3; (try simp only [List.length_append]); omega) (by have h1 := mk_len 2; have e1 := endL_le l[j].o.flatten; have e2 := endL_le l[j].b.flatten; have e3 := endL_le l[j].t.flatten; have e4 := mk_len 0; have e5 := mk_len 1; have e6 := mk_len 2; have h1 := hb1; have h2 := hb2; have h3 := hb3; simp only [Ck.c] at h1 h2 h3; (try simp only [List.length_append]); omega)) (Wd.u rfl) rfl rfl (fun v78 H78 r78 => ?_)
              obtain ⟨k78, ow, hk78, hs78⟩ := r78
              replace hk78 : Nx k71 H77.size k78 := hk78
              replace hs78 := hs78.md
              have df211 := DF.app (df196) (bf_hl.mono hm0.size) hk78
              have df212 := DF.app (df197) (bf_hx.mono hm0.size) hk78
              have df213 := DF.app (df198) (bf_pt74.mono hm0.size) hk78
              have dj214 : Dj k277 k78 := Dj.app (dj205.symm) oj77.le hk78
              have nx215 : Nx 0 H0.size k78 := Nx.tr (nx199) hk78 hm0.size
              have nx216 : Nx 0 H0.size k78 := Nx.tr (nx200) hk78 hlm1.size
              have nx217 : Nx k71 H77.size k78 := Nx.tr (nx210) hk78 hq16.size
              replace hl := hl.upL hs78 (DFL.cons df196 DFL.nil)
              replace hx := fun x hx_ => (hx x hx_).upL hs78 (DFL.cons df197 DFL.nil)
              replace pt74 := pt74.upL hs78 (DFL.cons df198 DFL.nil)
              replace oj77 := oj77.upL hs78 (DL.cons dj205.symm DL.nil)
              replace hm0 := (Mo.trL (ks := []) (hm0.mdn []) hs78 (MIL.cons (MI.app MI.z (nx199) (Nat.le_refl _)) MIL.nil)).nil
              replace hlm1 := (Mo.trL (ks := []) (hlm1.mdn []) hs78 (MIL.cons (MI.app MI.z (nx200) (Nat.le_refl _)) MIL.nil)).nil
              replace hq16 := hq16.trL hs78 (MIL.cons (MI.app (MI.root (by simp)) (nx210) (Nat.le_refl _)) MIL.nil)
              have hz37 := hs78.size
              have hle_ow := ow.le
              refine ⟨.inr hq16, LH.narrow (SH2 := fun Hq => Mo (Ms [k78]) H78 Hq) (fun Hq hq => hq16.trL hq (MIL.cons (MI.app (MI.root (by simp)) (nx217) (Nat.le_refl _)) MIL.nil)) ?_⟩
              have hq16 : Mo (Ms [k78]) H78 H78 := Mo.refl _ _
              have nx218 := Nx.refl k78 H78.size
              refine LH.take 10 (by kernel_rfl) rfl (by kernel_rfl) (by kernel_rfl) (by kernel_rfl) (fun Hq hq => Y.assign rfl rfl) (Wd.u rfl) rfl rfl hq16 ?_
              refine LH.done (by kernel_rfl) ?_
              refine hK25 _ _ ?_
              refine CW.region ?_
              refine LR.v (Y.move rfl rfl) (Wd.u rfl) rfl rfl ?_
              -- call selvage/selvageref14.mark
              refine LR.call rfl Try.call52 rfl (Wd.u rfl) rfl rfl (mark_ct 3 w0 _ (by decide)) (fun v80 H80 r80 => ?_)
              obtain ⟨rfl, hs80⟩ := r80
              replace hl := hl.nw hs80
              replace hx := fun x hx_ => (hx x hx_).nw hs80
              replace ow := ow.nw hs80
              replace hm0 := hm0.tr hs80
              replace hlm1 := hlm1.tr hs80
              have hz38 := hs80.size
              refine LR.z (Z.apndStr ow rfl inf22 Try.underlying9 rfl rfl (by have h1 := mk_len 3; have e1 := endL_le l[j].o.flatten; have e2 := endL_le l[j].b.flatten; have e3 := endL_le l[j].t.flatten; have e4 := mk_len 0; have e5 := mk_len 1; have e6 := mk_len 2; have h1 := hb1; have h2 := hb2; have h3 := hb3; simp only [Ck.c] at h1 h2 h3; (try simp only [List.length_append]); omega)) (Wd.u rfl) rfl rfl (fun v81 H81 r81 => ?_)
              obtain ⟨k81, ow, hk81, hs81⟩ := r81
              replace hk81 : Nx k78 H80.size k81 := hk81
              replace hs81 := hs81.md
              have df219 := DF.app (df211) (bf_hl.mono hm0.size) hk81
              have df220 := DF.app (df212) (bf_hx.mono hm0.size) hk81
              have nx221 : Nx 0 H0.size k81 := Nx.tr (nx215) hk81 hm0.size
              have nx222 : Nx 0 H0.size k81 := Nx.tr (nx216) hk81 hlm1.size
              replace hl := hl.upL hs81 (DFL.cons df211 DFL.nil)
              replace hx := fun x hx_ => (hx x hx_).upL hs81 (DFL.cons df212 DFL.nil)
              replace hm0 := (Mo.trL (ks := []) (hm0.mdn []) hs81 (MIL.cons (MI.app MI.z (nx215) (Nat.le_refl _)) MIL.nil)).nil
              replace hlm1 := (Mo.trL (ks := []) (hlm1.mdn []) hs81 (MIL.cons (MI.app MI.z (nx216) (Nat.le_refl _)) MIL.nil)).nil
              have hz39 := hs81.size
              have hle_ow := ow.le
              refine LR.v (Y.assign rfl rfl) (Wd.u rfl) rfl rfl ?_
              refine LR.nil ?_
              refine hK12 _ _ ?_
              refine hK10 _ _ ?_
              refine hK9 _ _ ?_
              refine CW.region ?_
              refine LR.v (Y.move rfl rfl) (Wd.u rfl) rfl rfl ?_
              refine LR.v (Y.addi rfl rfl rfl (by omega)) (Wd.u rfl) rfl rfl ?_
              refine LR.v (Y.assign rfl rfl) (Wd.u rfl) rfl rfl ?_
              refine LR.nil ?_
              have hrk := rendK l j hjl
              refine QN.sub (hN6 (j + 1, v81, k81) _ ?_ ?_) ⟨rfl, rfl, (iv (by omega)), trivial⟩
              · exact ⟨(by omega), by rw [hrk, r1_4 (by omega), ← List.append_assoc, ← List.append_assoc, ← List.append_assoc, ← List.append_assoc, ← List.append_assoc, ← List.append_assoc]; exact ow, nx222, hlm1⟩
              · first | omega | (simp only; omega) | (simp; omega)
            ·
              refine CW.skip ?_
              refine hK12 _ _ ?_
              refine hK10 _ _ ?_
              refine hK9 _ _ ?_
              refine CW.region ?_
              refine LR.v (Y.move rfl rfl) (Wd.u rfl) rfl rfl ?_
              refine LR.v (Y.addi rfl rfl rfl (by omega)) (Wd.u rfl) rfl rfl ?_
              refine LR.v (Y.assign rfl rfl) (Wd.u rfl) rfl rfl ?_
              refine LR.nil ?_
              have hrk := rendK l j hjl
              refine QN.sub (hN6 (j + 1, vo, ko) _ ?_ ?_) ⟨rfl, rfl, (iv (by omega)), trivial⟩
              · exact ⟨(by omega), by rw [hrk, r1_x (by omega) (by omega) (by omega) (by omega) (by omega), List.append_nil]; exact ow, nx4, hlm1⟩
              · first | omega | (simp only; omega) | (simp; omega)
  ·
    refine CW.exit (hE7 (.exit 0) nofun _ _ (hE6 (.exit 0) nofun _ _ (hX5 _ _ ?_)))
    refine hK3 _ _ ?_
    refine CW.seq (fun K26 hK26 hE26 => ?_)
    refine CW.region ?_
    refine LR.v (Y.move rfl rfl) (Wd.u rfl) rfl rfl ?_
    refine LR.v (Y.assign rfl rfl) (Wd.u rfl) rfl rfl ?_
    refine LR.nil ?_
    refine hK26 _ _ ?_
    refine CW.ret (hret .ret (.inr rfl) _ _ _ (res1 rfl rfl) ?_)
    obtain rfl : j = l.length := by omega
    rw [List.take_of_length_le (by simp)] at ow
    exact ⟨vo, ko, rfl, ow, nx3, hm0⟩

end Go.Proofs.Ytegfnfhdgbcjbaa.MerF
