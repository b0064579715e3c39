/-
  Which line of a side each line of base is kept as.
-/
import Derived.Test.YtegfnfhdgbcjbaaMerC
import Derived.Test.YtegfnfhdgbcjbaaLinC
import Derived.Test.YtegfnfhdgbcjbaaLinD
import Derived.Test.YtegfnfhdgbcjbaaLinL
import Derived.Test.YtegfnfhdgbcjbaaLinN
import Derived.Test.YtegfnfhdgbcjbaaLinF
namespace Go.Proofs.Ytegfnfhdgbcjbaa.MerD
open Go.Proofs.Ytegfnfhdgbcjbaa.E Go.RowKit Go.Proofs.Ytegfnfhdgbcjbaa.LinM Go.Proofs.Ytegfnfhdgbcjbaa.LinA Go.Proofs.Ytegfnfhdgbcjbaa.LinB Go.Proofs.Ytegfnfhdgbcjbaa.LinC Go.Proofs.Ytegfnfhdgbcjbaa.LinD Go.Proofs.Ytegfnfhdgbcjbaa.LinL Go.Proofs.Ytegfnfhdgbcjbaa.LinN Go.Proofs.Ytegfnfhdgbcjbaa.LinF Go.Proofs.Ytegfnfhdgbcjbaa.MerA Go.Proofs.Ytegfnfhdgbcjbaa.MerB Go.Proofs.Ytegfnfhdgbcjbaa.MerC
set_option linter.unusedVariables false
set_option linter.unusedSimpArgs false
set_option linter.unusedSectionVars false
set_option maxRecDepth 100000 in
theorem inf89 : Inf Try.prog 89 3 1 8 := ⟨Try.underlying89, _, _, rfl, rfl, rfl, rfl, rfl⟩

theorem Ct.ow {P : Program} {w0 : World} {f : FuncId} {args : Array Value} {H0 : Heap} {α : Type} {e : TypeId} {g : α → List Value} {sz : Nat} {L : List α} (h : Ct P w0 f args H0 (fun r H2 => Own (fun b => H0.size ≤ b) e H2 g sz r L ∧ Nw H0 H2)) :
    Ct P w0 f args H0 (fun r H2 => ∃ v, ∃ k, r = v ∧ Ow k e H2 g sz v L ∧ Nx 0 H0.size k ∧ Nw H0 H2) := by
  refine h.mono ?_
  rintro r H2 ⟨h1, h2⟩
  obtain ⟨k, h3, h4⟩ := Ow.of h1
  refine ⟨r, k, rfl, h3, ?_, h2⟩
  rcases h4 with rfl | ⟨g, rfl, h5⟩
  · exact .inl rfl
  · exact .inr (.inr (by omega))
theorem split3 (v : Value) (b : List UInt8) (w0 : World) (H0 : Heap) (hv : RdT H0 fB 1 v b) (hl : b.length ≤ 1048576) : Ct Try.prog w0 39 #[v] H0 (fun r H2 => ∃ v, ∃ k, r = v ∧ Ow k 9 H2 fS 1 v (splitL [] b) ∧ Nx 0 H0.size k ∧ Nw H0 H2) := Ct.ow (split_ct v b w0 H0 hv hl)
theorem rsplit3 (v : Value) (b : List UInt8) (w0 : World) (H0 : Heap) (hv : RdT H0 fB 1 v b) (hl : b.length ≤ 1048576) : Ct Try.prog w0 30 #[v] H0 (fun r H2 => ∃ v, ∃ k, r = v ∧ Ow k 9 H2 fS 1 v (splitL [] b) ∧ Nx 0 H0.size k ∧ Nw H0 H2) := Ct.ow (rsplit_ct v b w0 H0 hv hl)
theorem join3 (v : Value) (b : List (List UInt8)) (w0 : World) (H0 : Heap) (hv : RdT H0 fS 1 v b) (hl : b.flatten.length ≤ 1073741824) : Ct Try.prog w0 24 #[v] H0 (fun r H2 => ∃ v, ∃ k, r = v ∧ Ow k 5 H2 fB 1 v (b.flatten) ∧ Nx 0 H0.size k ∧ Nw H0 H2) := Ct.ow (join_ct v b w0 H0 hv hl)
theorem rjoin3 (v : Value) (b : List (List UInt8)) (w0 : World) (H0 : Heap) (hv : RdT H0 fS 1 v b) (hl : b.flatten.length ≤ 1073741824) : Ct Try.prog w0 12 #[v] H0 (fun r H2 => ∃ v, ∃ k, r = v ∧ Ow k 5 H2 fB 1 v (b.flatten) ∧ Nx 0 H0.size k ∧ Nw H0 H2) := Ct.ow (rjoin_ct v b w0 H0 hv hl)
theorem rdiff3 (va vb : Value) (a b : List (List UInt8)) (w0 : World) (H0 : Heap) (ha : RdT H0 fS 1 va a) (hb : RdT H0 fS 1 vb b) (h1 : a.length ≤ 4000) (h2 : b.length ≤ 4000) :
    Ct Try.prog w0 61 #[va, vb] H0 (fun r H2 => ∃ v, r = .tuple #[v, .int .i64 0] ∧ Rd (fun c => H0.size ≤ c) H2 fE 2 v (script a b) ∧ Nw H0 H2) := by
  refine (rdiff_ct va vb a b w0 H0 ha hb).mono ?_
  rintro r H2 ⟨v, h3, h4, h5⟩
  rw [if_neg (by omega)] at h3 h4
  exact ⟨v, h3, h4.rd, h5⟩
/-- one step more of a script: the partners so far, the next line of the side -/
def pst (s : List Int × Nat) (op : Int) : List Int × Nat := if op = 0 then (s.1 ++ [(s.2 : Int)], s.2 + 1) else if op = 2 then (s.1, s.2 + 1) else (s.1 ++ [-1], s.2)
def pfold (ops : List Int) : List Int × Nat := ops.foldl pst ([], 0)
theorem pfold_snoc (ops : List Int) (o : Int) : pfold (ops ++ [o]) = pst (pfold ops) o := by simp [pfold]
def expE (es : List (Int × Int)) : List Int := es.flatMap (fun e => List.replicate e.2.toNat e.1)
theorem expE_app (a b : List (Int × Int)) : expE (a ++ b) = expE a ++ expE b := by simp [expE]
theorem expE_one (e : Int × Int) : expE [e] = List.replicate e.2.toNat e.1 := by simp [expE]
theorem expE_addE (es : List (Int × Int)) (op : Int) (h : ∀ e ∈ es, 1 ≤ e.2) : expE (addE es op) = expE es ++ [op] := by
  rcases List.eq_nil_or_concat es with rfl | ⟨l0, y, rfl⟩
  · simp [addE, expE]
  · rw [List.concat_eq_append] at *
    have hy := h y (by simp)
    by_cases e : y.1 = op
    · subst e
      rw [addE_eq _ _ (by simp) (by simp)]
      have e1 : (l0 ++ [y]).length - 1 = l0.length := by simp
      simp only [e1, List.getElem_concat_length]
      rw [show (l0 ++ [y]).set l0.length (y.1, y.2 + 1) = l0 ++ [(y.1, y.2 + 1)] by simp, expE_app, expE_app, expE_one, expE_one]
      simp only [show (y.2 + 1).toNat = y.2.toNat + 1 by omega, List.replicate_succ', List.append_assoc]
    · rw [addE_ne _ _ (fun h => by simpa using e), expE_app, expE_one]
      rfl
theorem expE_runs (ops : List Int) : expE (runs ops) = ops := by
  obtain ⟨n, hn⟩ : ∃ n, n = ops.length := ⟨_, rfl⟩
  induction n generalizing ops with
  | zero => rw [List.eq_nil_of_length_eq_zero hn.symm]; rfl
  | succ n ih =>
    rcases List.eq_nil_or_concat ops with rfl | ⟨l0, y, rfl⟩
    · simp at hn
    · rw [List.concat_eq_append] at *
      rw [runs_snoc, expE_addE _ _ (runs_pos _), ih l0 (by simp at hn; omega)]
/-- the partners of a's lines in b -/
def parts (a b : List (List UInt8)) : List Int := (pfold (W a b)).1
theorem pfold_le (ops : List Int) : (pfold ops).1.length ≤ ops.length ∧ (pfold ops).2 ≤ ops.length := by
  obtain ⟨n, hn⟩ : ∃ n, n = ops.length := ⟨_, rfl⟩
  induction n generalizing ops with
  | zero => rw [List.eq_nil_of_length_eq_zero hn.symm]; exact ⟨Nat.le_refl _, Nat.le_refl _⟩
  | succ n ih =>
    rcases List.eq_nil_or_concat ops with rfl | ⟨l0, y, rfl⟩
    · simp at hn
    · rw [List.concat_eq_append] at *
      have := ih l0 (by simp at hn; omega)
      rw [pfold_snoc, pst, List.length_append, List.length_singleton]
      split
      · simp; omega
      · split
        · simp; omega
        · simp; omega
theorem expE_take (es : List (Int × Int)) (n : Nat) (h : n < es.length) : expE (es.take (n + 1)) = expE (es.take n) ++ List.replicate es[n].2.toNat es[n].1 := by
  rw [List.take_succ_eq_append_getElem h, expE_app, expE_one]
theorem expE_bd (es : List (Int × Int)) (n j : Nat) (h : n < es.length) (hj : j ≤ es[n].2.toNat) : (expE (es.take n) ++ List.replicate j es[n].1).length ≤ (expE es).length := by
  have e : expE es = expE (es.take (n + 1)) ++ expE (es.drop (n + 1)) := by rw [← expE_app, List.take_append_drop]
  rw [e, expE_take es n h]
  simp; omega
theorem expE_script (a b : List (List UInt8)) (ha : a.length ≤ 4000) (hb : b.length ≤ 4000) : expE (script a b) = W a b ∧ (expE (script a b)).length ≤ 8000 := by
  have h := expE_runs (W a b)
  exact ⟨h, by show (expE (runs (W a b))).length ≤ _; rw [h]; have := W_len a b; omega⟩
theorem script_ops (a b : List (List UInt8)) : ∀ e ∈ script a b, (e.1 = 0 ∨ e.1 = 1 ∨ e.1 = 2) ∧ 1 ≤ e.2 := by
  intro e he
  have h1 := runs_pos (W a b) e he
  refine ⟨(W_mem _ a b (Nat.le_refl _)).2 e.1 ?_, h1⟩
  rw [← expE_runs (W a b)]
  exact List.mem_flatMap.2 ⟨e, he, by simp; omega⟩
theorem rep_snoc (ops : List Int) (j : Nat) (x : Int) : pfold (ops ++ List.replicate (j + 1) x) = pst (pfold (ops ++ List.replicate j x)) x := by
  rw [List.replicate_succ', ← List.append_assoc, pfold_snoc]
theorem rep_keep (ops : List Int) (j : Nat) (x : Int) (h : x = 0) : pfold (ops ++ List.replicate (j + 1) x) = ((pfold (ops ++ List.replicate j x)).1 ++ [((pfold (ops ++ List.replicate j x)).2 : Int)], (pfold (ops ++ List.replicate j x)).2 + 1) := by rw [rep_snoc, pst, if_pos h]
theorem rep_ins (ops : List Int) (j : Nat) (x : Int) (h : x = 2) : pfold (ops ++ List.replicate (j + 1) x) = ((pfold (ops ++ List.replicate j x)).1, (pfold (ops ++ List.replicate j x)).2 + 1) := by rw [rep_snoc, pst, if_neg (by omega), if_pos h]
theorem rep_del (ops : List Int) (j : Nat) (x : Int) (h : x ≠ 0) (h2 : x ≠ 2) : pfold (ops ++ List.replicate (j + 1) x) = ((pfold (ops ++ List.replicate j x)).1 ++ [-1], (pfold (ops ++ List.replicate j x)).2) := by rw [rep_snoc, pst, if_neg h, if_neg h2]

set_option maxHeartbeats 2000000 in
theorem partner_ct (v1 v2 : Value) (a b : List (List UInt8)) (w0 : World) (H0 : Heap)
    (ha : RdT H0 fS 1 v1 a) (hb : RdT H0 fS 1 v2 b) (hal : a.length ≤ 4000) (hbl : b.length ≤ 4000) :
    Ct Try.prog w0 50 #[v1, v2] H0 (fun r H2 => ∃ v : Value, ∃ k : Nat, r = .tuple #[v, .int .i64 0] ∧ (Ow k 3 H2 fI 1 v (parts a b)) ∧ (Nx 0 H0.size k) ∧ Nw H0 H2) := by
  refine Ct.enter (args := [v1, v2]) Try.func50 rfl rfl rfl ?_
  intro Q0 hret
  have hm0 : Nw H0 H0 := Mo.refl _ _
  replace ha := ha.bnd
  have bf_ha := Rd.bf ha
  replace hb := hb.bnd
  have bf_hb := Rd.bf hb
  refine CW.seq (fun K1 hK1 hE1 => ?_)
  refine CW.region ?_
  refine LR.v (Y.assign rfl rfl) (Wd.u rfl) rfl rfl ?_
  refine LR.v (Y.assign rfl rfl) (Wd.u rfl) rfl rfl ?_
  refine LR.nil ?_
  refine hK1 _ _ ?_
  refine CW.seq (fun K2 hK2 hE2 => ?_)
  refine CW.region ?_
  refine LR.v (Y.move rfl rfl) (Wd.u rfl) rfl rfl ?_
  refine LR.v (Y.move rfl rfl) (Wd.u rfl) rfl rfl ?_
  -- call selvage/selvageref12.Diff
  refine LR.call rfl Try.call61 rfl (Wd.u rfl) rfl rfl (rdiff3 _ _ a b w0 _ ha.any hb.any hal hbl) (fun v15 H15 r15 => ?_)
  obtain ⟨v15, rfl, hr15, hs15⟩ := r15
  replace ha := ha.nw hs15
  replace hb := hb.nw hs15
  replace hm0 := hm0.tr hs15
  have hz1 := hs15.size
  replace hr15 := hr15.bnd
  have bf_hr15 := Rd.bf hr15
  obtain ⟨hex, hexl⟩ := expE_script a b hal hbl
  have hops := script_ops a b
  obtain ⟨es, hes⟩ : ∃ es, script a b = es := ⟨_, rfl⟩
  rw [hes] at hr15 hex hexl hops
  have hesl := hr15.len
  refine LR.v (Y.move rfl rfl) (Wd.u rfl) rfl rfl ?_
  refine LR.v (Y.extract rfl rfl rfl) (Wd.u rfl) rfl rfl ?_
  refine LR.v (Y.extract rfl rfl rfl) (Wd.u rfl) rfl rfl ?_
  refine LR.v (Y.assign rfl rfl) (Wd.u rfl) rfl rfl ?_
  refine LR.v (Y.assign rfl rfl) (Wd.u rfl) rfl rfl ?_
  refine LR.nil ?_
  refine hK2 _ _ ?_
  refine CW.seq (fun K3 hK3 hE3 => ?_)
  refine CW.seq (fun K4 hK4 hE4 => ?_)
  refine CW.region ?_
  refine LR.v (Y.move rfl rfl) (Wd.u rfl) rfl rfl ?_
  refine LR.v ((Y.neq rfl rfl rfl).isF (fun h => h rfl)) (Wd.u rfl) rfl rfl ?_
  refine LR.nil ?_
  refine hK4 _ _ ?_
  refine CW.cond_f rfl ?_
  refine CW.skip ?_
  refine hK3 _ _ ?_
  refine CW.seq (fun K5 hK5 hE5 => ?_)
  refine CW.region ?_
  refine LR.v (Y.assign rfl rfl) (Wd.u rfl) rfl rfl ?_
  refine LR.nil ?_
  refine hK5 _ _ ?_
  refine CW.seq (fun K6 hK6 hE6 => ?_)
  refine CW.region ?_
  refine LR.v (Y.assign rfl rfl) (Wd.u rfl) rfl rfl ?_
  refine LR.nil ?_
  refine hK6 _ _ ?_
  refine CW.seq (fun K7 hK7 hE7 => ?_)
  refine CW.seq (fun K8 hK8 hE8 => ?_)
  refine CW.region ?_
  refine LR.v (Y.assign rfl rfl) (Wd.u rfl) rfl rfl ?_
  refine LR.nil ?_
  refine hK8 _ _ ?_
  refine CW.block (fun K9 hK9 hX9 hE9 => ?_)
  refine CW.loop (fun (s_ : (Nat) × (Value) × (Nat)) => match s_ with | (n, vo, ko) => [(6, v15), (8, vo), (9, .int .i64 (pfold (expE (es.take n))).2), (10, .int .i64 n)])
    (fun (s_ : (Nat) × (Value) × (Nat)) (H : Heap) => match s_ with | (n, vo, ko) => (n ≤ es.length) ∧ (Ow ko 3 H fI 1 vo (pfold (expE (es.take n))).1) ∧ (Nx 0 H15.size ko) ∧ Nw H15 H)
    (fun (s_ : (Nat) × (Value) × (Nat)) => match s_ with | (n, vo, ko) => es.length - n) (0, .slice none 0 0, 0) ⟨rfl, rfl, rfl, rfl, trivial⟩ ?_ ?_
  ·
    exact ⟨(by omega), Ow.nil fI_len fI_one, Nx.refl _ _, Mo.refl _ _⟩
  rintro ⟨n, vo, ko⟩ HL1 hI1 K10 hN10 hE10
  obtain ⟨hn, ow, nxl_ow, hlm1⟩ := hI1
  have df1 := DF.app (DF.z) (bf_ha.mono hm0.size) nxl_ow
  have df2 := DF.app (DF.z) (bf_hb.mono hm0.size) nxl_ow
  have df3 := DF.app (DF.z) (bf_hr15.mono (by omega)) nxl_ow
  have nx4 : Nx 0 H0.size ko := Nx.tr (Nx.refl 0 _) nxl_ow hm0.size
  replace ha := ha.nw hlm1
  replace hb := hb.nw hlm1
  replace hr15 := hr15.nw hlm1
  replace hm0 := hm0.tr hlm1
  have hz2 := hlm1.size
  have hle_ow := ow.le
  have nx5 := nxl_ow
  refine CW.seq (fun K11 hK11 hE11 => ?_)
  refine CW.seq (fun K12 hK12 hE12 => ?_)
  refine CW.region ?_
  refine LR.v (Y.move rfl rfl) (Wd.u rfl) rfl rfl ?_
  refine LR.v (Y.move rfl rfl) (Wd.u rfl) rfl rfl ?_
  refine LR.v (Y.len hr15 rfl Try.runUnderlying100 rfl) (Wd.u rfl) rfl rfl ?_
  refine LR.v (Y.lss rfl rfl rfl) (Wd.u rfl) rfl rfl ?_
  refine LR.nil ?_
  refine hK12 _ _ ?_
  refine CW.condp rfl (fun c24 => ?_) (fun c24 => ?_)
  ·
    refine CW.skip ?_
    refine hK11 _ _ ?_
    refine CW.seq (fun K13 hK13 hE13 => ?_)
    refine CW.block (fun K14 hK14 hX14 hE14 => ?_)
    refine CW.seq (fun K15 hK15 hE15 => ?_)
    refine CW.region ?_
    refine LR.v (Y.assign rfl rfl) (Wd.u rfl) rfl rfl ?_
    refine LR.nil ?_
    refine hK15 _ _ ?_
    refine CW.block (fun K16 hK16 hX16 hE16 => ?_)
    refine CW.loop (fun (s_ : (Nat) × (Value) × (Nat)) => match s_ with | (j, vp, kp) => [(6, v15), (8, vp), (9, .int .i64 (pfold (expE (es.take n) ++ List.replicate j es[n].1)).2), (10, .int .i64 n), (11, .int .i64 j)])
      (fun (s_ : (Nat) × (Value) × (Nat)) (H : Heap) => match s_ with | (j, vp, kp) => (j ≤ es[n].2.toNat) ∧ (Ow kp 3 H fI 1 vp (pfold (expE (es.take n) ++ List.replicate j es[n].1)).1) ∧ (Nx ko HL1.size kp) ∧ Mo (Ms [ko]) HL1 H)
      (fun (s_ : (Nat) × (Value) × (Nat)) => match s_ with | (j, vp, kp) => es[n].2.toNat - j) (0, vo, ko) ⟨rfl, rfl, (iv (by simp)), rfl, rfl, trivial⟩ ?_ ?_
    ·
      exact ⟨(by omega), by simpa using ow, Nx.refl _ _, Mo.refl _ _⟩
    rintro ⟨j, vp, kp⟩ HL2 hI2 K17 hN17 hE17
    obtain ⟨hj, ow, nxl_ow, hlm2⟩ := hI2
    have df6 := DF.app (df1) (bf_ha.mono hm0.size) nxl_ow
    have df7 := DF.app (df2) (bf_hb.mono hm0.size) nxl_ow
    have df8 := DF.app (df3) (bf_hr15.mono (by omega)) nxl_ow
    have nx9 : Nx 0 H0.size kp := Nx.tr (nx4) nxl_ow hm0.size
    have nx10 : Nx 0 H15.size kp := Nx.tr (nx5) nxl_ow hlm1.size
    replace ha := ha.upL hlm2 (DFL.cons df1 DFL.nil)
    replace hb := hb.upL hlm2 (DFL.cons df2 DFL.nil)
    replace hr15 := hr15.upL hlm2 (DFL.cons df3 DFL.nil)
    replace hm0 := (Mo.trL (ks := []) (hm0.mdn []) hlm2 (MIL.cons (MI.app MI.z (nx4) (Nat.le_refl _)) MIL.nil)).nil
    replace hlm1 := (Mo.trL (ks := []) (hlm1.mdn []) hlm2 (MIL.cons (MI.app MI.z (nx5) (Nat.le_refl _)) MIL.nil)).nil
    have hz3 := hlm2.size
    have hle_ow := ow.le
    have nx11 := nxl_ow
    have hbd := expE_bd es n j (by omega) (by omega)
    have hpl := pfold_le (expE (es.take n) ++ List.replicate j es[n].1)
    have hjl : j ≤ 8000 := by have h := hbd; simp only [List.length_append, List.length_replicate] at h; omega
    refine CW.seq (fun K18 hK18 hE18 => ?_)
    refine CW.seq (fun K19 hK19 hE19 => ?_)
    refine CW.region ?_
    refine LR.v (Y.move rfl rfl) (Wd.u rfl) rfl rfl ?_
    refine LR.v (Y.move rfl rfl) (Wd.u rfl) rfl rfl ?_
    refine LR.v (Y.move rfl rfl) (Wd.u rfl) rfl rfl ?_
    refine LR.e (g := fun ad => .pointer (some ad)) (Y.indexAddrF hr15 (n) rfl Try.runUnderlying100 Try.sizeOf104 rfl rfl (by first | rfl | omega) (by first | omega | (simp; omega) | (simp; done))) (Wd.u rfl) rfl rfl (fun ad30 pt30 => ?_)
    have bf_pt30 := bf_hr15
    refine LR.v (Y.fieldAddr pt30.pt rfl Try.runUnderlying104 rfl rfl Try.sizeOf3 (by decide) rfl) (Wd.u rfl) rfl rfl ?_
    refine LR.v (Y.load1 (pt30.pt.drop 1) rfl Try.isAgg3 rfl) (Wd.u rfl) rfl rfl ?_
    refine LR.v (Y.lss rfl rfl rfl) (Wd.u rfl) rfl rfl ?_
    refine LR.nil ?_
    refine hK19 _ _ ?_
    refine CW.condp rfl (fun c33 => ?_) (fun c33 => ?_)
    ·
      refine CW.skip ?_
      refine hK18 _ _ ?_
      refine CW.seq (fun K20 hK20 hE20 => ?_)
      refine CW.block (fun K21 hK21 hX21 hE21 => ?_)
      refine CW.seq (fun K22 hK22 hE22 => ?_)
      refine CW.region ?_
      refine LR.v (Y.move rfl rfl) (Wd.u rfl) rfl rfl ?_
      refine LR.v (Y.move rfl rfl) (Wd.u rfl) rfl rfl ?_
      have hpn := hops es[n] (by simp)
      refine LR.e (g := fun ad => .pointer (some ad)) (Y.indexAddrF hr15 (n) rfl Try.runUnderlying100 Try.sizeOf104 rfl rfl (by first | rfl | omega) (by first | omega | (simp; omega) | (simp; done))) (Wd.u rfl) rfl rfl (fun ad38 pt38 => ?_)
      have bf_pt38 := bf_hr15
      refine LR.v (Y.fieldAddr pt38.pt rfl Try.runUnderlying104 rfl rfl Try.sizeOf3 (by decide) rfl) (Wd.u rfl) rfl rfl ?_
      refine LR.v (Y.load1 (pt38.pt.drop 0) rfl Try.isAgg3 rfl) (Wd.u rfl) rfl rfl ?_
      refine LR.nil ?_
      refine hK22 _ _ ?_
      refine CW.block (fun K23 hK23 hX23 hE23 => ?_)
      refine CW.seq (fun K24 hK24 hE24 => ?_)
      refine CW.region ?_
      refine LR.v (Y.eql rfl rfl rfl) (Wd.u rfl) rfl rfl ?_
      refine LR.v (Y.assign rfl rfl) (Wd.u rfl) rfl rfl ?_
      refine LR.nil ?_
      refine hK24 _ _ ?_
      refine CW.condp rfl (fun c41 => ?_) (fun c41 => ?_)
      ·
        refine CW.seq (fun K25 hK25 hE25 => ?_)
        refine CW.region ?_
        refine LR.v (Y.move rfl rfl) (Wd.u rfl) rfl rfl ?_
        refine LR.v (Y.move rfl rfl) (Wd.u rfl) rfl rfl ?_
        refine LR.z (Z.litw _ ([((pfold (expE (es.take n) ++ List.replicate j es[n].1)).2 : Int)]) rfl inf89 rfl rfl rfl (by decide) (by decide) fI_len fI_one (rfl)) (Wd.u rfl) rfl rfl (fun v45 H45 r45 => ?_)
        obtain ⟨ow45, hs45, ob45, hH45⟩ := r45
        have hzs45 : H45.size = HL2.size + 1 := by rw [hH45]; simp
        have df12 := (DF.new (bf_ha.mono hm0.size) : DF _ (HL2.size + 1))
        have df13 := (DF.new (bf_hb.mono hm0.size) : DF _ (HL2.size + 1))
        have df14 := (DF.new (bf_hr15.mono (by omega)) : DF _ (HL2.size + 1))
        have dj15 : Dj kp (HL2.size + 1) := Dj.new ow.le
        have nx16 : Nx 0 H0.size (HL2.size + 1) := Nx.new hm0.size
        have nx17 : Nx 0 H15.size (HL2.size + 1) := Nx.new hlm1.size
        have nx18 : Nx 0 HL1.size (HL2.size + 1) := Nx.new hlm2.size
        replace ha := ha.nw hs45
        replace hb := hb.nw hs45
        replace hr15 := hr15.nw hs45
        replace ow := ow.nw hs45
        replace hm0 := hm0.tr hs45
        replace hlm1 := hlm1.tr hs45
        replace hlm2 := hlm2.trN hs45
        have hz4 := hs45.size
        refine LR.z (Z.apnd ow ow45.rd rfl inf89 rfl rfl (by first | omega | (simp; omega)) (by first | omega | (simp; omega))) (Wd.u rfl) rfl rfl (fun v46 H46 r46 => ?_)
        obtain ⟨k46, ow, hk46, hs46⟩ := r46
        replace hk46 : Nx kp H45.size k46 := hk46
        replace hs46 := hs46.md
        have df19 := DF.app (df6) (bf_ha.mono hm0.size) hk46
        have df20 := DF.app (df7) (bf_hb.mono hm0.size) hk46
        have df21 := DF.app (df8) (bf_hr15.mono (by omega)) hk46
        have dj22 : Dj (HL2.size + 1) k46 := Dj.app (dj15.symm) ow45.le hk46
        have nx23 : Nx 0 H0.size k46 := Nx.tr (nx9) hk46 hm0.size
        have nx24 : Nx 0 H15.size k46 := Nx.tr (nx10) hk46 hlm1.size
        have nx25 : Nx ko HL1.size k46 := Nx.tr (nx11) hk46 hlm2.size
        replace ha := ha.upL hs46 (DFL.cons df6 DFL.nil)
        replace hb := hb.upL hs46 (DFL.cons df7 DFL.nil)
        replace hr15 := hr15.upL hs46 (DFL.cons df8 DFL.nil)
        replace ow45 := ow45.upL hs46 (DL.cons dj15.symm DL.nil)
        replace hm0 := (Mo.trL (ks := []) (hm0.mdn []) hs46 (MIL.cons (MI.app MI.z (nx9) (Nat.le_refl _)) MIL.nil)).nil
        replace hlm1 := (Mo.trL (ks := []) (hlm1.mdn []) hs46 (MIL.cons (MI.app MI.z (nx10) (Nat.le_refl _)) MIL.nil)).nil
        replace hlm2 := hlm2.trL hs46 (MIL.cons (MI.app (MI.root (by simp)) (nx11) (Nat.le_refl _)) MIL.nil)
        have hz5 := hs46.size
        have hle_ow := ow.le
        refine LR.v (Y.assign rfl rfl) (Wd.u rfl) rfl rfl ?_
        refine LR.nil ?_
        refine hK25 _ _ ?_
        refine CW.region ?_
        refine LR.v (Y.move rfl rfl) (Wd.u rfl) rfl rfl ?_
        refine LR.v (Y.addi rfl rfl rfl (by omega)) (Wd.u rfl) rfl rfl ?_
        refine LR.v (Y.assign rfl rfl) (Wd.u rfl) rfl rfl ?_
        refine LR.nil ?_
        refine hK23 _ _ ?_
        refine hK21 _ _ ?_
        refine hK20 _ _ ?_
        refine CW.region ?_
        refine LR.v (Y.move rfl rfl) (Wd.u rfl) rfl rfl ?_
        refine LR.v (Y.addi rfl rfl rfl (by omega)) (Wd.u rfl) rfl rfl ?_
        refine LR.v (Y.assign rfl rfl) (Wd.u rfl) rfl rfl ?_
        refine LR.nil ?_
        have hrk := rep_keep (expE (es.take n)) j es[n].1 (by omega)
        have e2 := congrArg Prod.snd hrk
        simp only at e2
        refine QN.sub (hN17 (j + 1, v46, k46) _ ?_ ?_) ⟨rfl, rfl, (iv (by omega)), (iv (by omega)), (iv (by omega)), trivial⟩
        · exact ⟨(by omega), by rw [hrk]; exact ow, nx25, hlm2⟩
        · first | omega | (simp only; omega) | (simp; omega)
      ·
        refine CW.seq (fun K26 hK26 hE26 => ?_)
        refine CW.region ?_
        refine LR.v (Y.eql rfl rfl rfl) (Wd.u rfl) rfl rfl ?_
        refine LR.v (Y.assign rfl rfl) (Wd.u rfl) rfl rfl ?_
        refine LR.nil ?_
        refine hK26 _ _ ?_
        refine CW.condp rfl (fun c49 => ?_) (fun c49 => ?_)
        ·
          refine CW.region ?_
          refine LR.v (Y.move rfl rfl) (Wd.u rfl) rfl rfl ?_
          refine LR.z (Z.litw _ ([(-1 : Int)]) rfl inf89 rfl rfl rfl (by decide) (by decide) fI_len fI_one (rfl)) (Wd.u rfl) rfl rfl (fun v52 H52 r52 => ?_)
          obtain ⟨ow52, hs52, ob52, hH52⟩ := r52
          have hzs52 : H52.size = HL2.size + 1 := by rw [hH52]; simp
          have df26 := (DF.new (bf_ha.mono hm0.size) : DF _ (HL2.size + 1))
          have df27 := (DF.new (bf_hb.mono hm0.size) : DF _ (HL2.size + 1))
          have df28 := (DF.new (bf_hr15.mono (by omega)) : DF _ (HL2.size + 1))
          have dj29 : Dj kp (HL2.size + 1) := Dj.new ow.le
          have nx30 : Nx 0 H0.size (HL2.size + 1) := Nx.new hm0.size
          have nx31 : Nx 0 H15.size (HL2.size + 1) := Nx.new hlm1.size
          have nx32 : Nx 0 HL1.size (HL2.size + 1) := Nx.new hlm2.size
          replace ha := ha.nw hs52
          replace hb := hb.nw hs52
          replace hr15 := hr15.nw hs52
          replace ow := ow.nw hs52
          replace hm0 := hm0.tr hs52
          replace hlm1 := hlm1.tr hs52
          replace hlm2 := hlm2.trN hs52
          have hz6 := hs52.size
          refine LR.z (Z.apnd ow ow52.rd rfl inf89 rfl rfl (by first | omega | (simp; omega)) (by first | omega | (simp; omega))) (Wd.u rfl) rfl rfl (fun v53 H53 r53 => ?_)
          obtain ⟨k53, ow, hk53, hs53⟩ := r53
          replace hk53 : Nx kp H52.size k53 := hk53
          replace hs53 := hs53.md
          have df33 := DF.app (df6) (bf_ha.mono hm0.size) hk53
          have df34 := DF.app (df7) (bf_hb.mono hm0.size) hk53
          have df35 := DF.app (df8) (bf_hr15.mono (by omega)) hk53
          have dj36 : Dj (HL2.size + 1) k53 := Dj.app (dj29.symm) ow52.le hk53
          have nx37 : Nx 0 H0.size k53 := Nx.tr (nx9) hk53 hm0.size
          have nx38 : Nx 0 H15.size k53 := Nx.tr (nx10) hk53 hlm1.size
          have nx39 : Nx ko HL1.size k53 := Nx.tr (nx11) hk53 hlm2.size
          replace ha := ha.upL hs53 (DFL.cons df6 DFL.nil)
          replace hb := hb.upL hs53 (DFL.cons df7 DFL.nil)
          replace hr15 := hr15.upL hs53 (DFL.cons df8 DFL.nil)
          replace ow52 := ow52.upL hs53 (DL.cons dj29.symm DL.nil)
          replace hm0 := (Mo.trL (ks := []) (hm0.mdn []) hs53 (MIL.cons (MI.app MI.z (nx9) (Nat.le_refl _)) MIL.nil)).nil
          replace hlm1 := (Mo.trL (ks := []) (hlm1.mdn []) hs53 (MIL.cons (MI.app MI.z (nx10) (Nat.le_refl _)) MIL.nil)).nil
          replace hlm2 := hlm2.trL hs53 (MIL.cons (MI.app (MI.root (by simp)) (nx11) (Nat.le_refl _)) MIL.nil)
          have hz7 := hs53.size
          have hle_ow := ow.le
          refine LR.v (Y.assign rfl rfl) (Wd.u rfl) rfl rfl ?_
          refine LR.nil ?_
          refine hK23 _ _ ?_
          refine hK21 _ _ ?_
          refine hK20 _ _ ?_
          refine CW.region ?_
          refine LR.v (Y.move rfl rfl) (Wd.u rfl) rfl rfl ?_
          refine LR.v (Y.addi rfl rfl rfl (by omega)) (Wd.u rfl) rfl rfl ?_
          refine LR.v (Y.assign rfl rfl) (Wd.u rfl) rfl rfl ?_
          refine LR.nil ?_
          have hrk := rep_del (expE (es.take n)) j es[n].1 (by omega) (by omega)
          have e2 := congrArg Prod.snd hrk
          simp only at e2
          refine QN.sub (hN17 (j + 1, v53, k53) _ ?_ ?_) ⟨rfl, rfl, (iv (by omega)), (iv (by omega)), (iv (by omega)), trivial⟩
          · exact ⟨(by omega), by rw [hrk]; exact ow, nx39, hlm2⟩
          · first | omega | (simp only; omega) | (simp; omega)
        ·
          refine CW.seq (fun K27 hK27 hE27 => ?_)
          refine CW.region ?_
          refine LR.v (Y.eql rfl rfl rfl) (Wd.u rfl) rfl rfl ?_
          refine LR.v (Y.assign rfl rfl) (Wd.u rfl) rfl rfl ?_
          refine LR.nil ?_
          refine hK27 _ _ ?_
          refine CW.condp rfl (fun c54 => ?_) (fun c54 => ?_)
          ·
            refine CW.region ?_
            refine LR.v (Y.move rfl rfl) (Wd.u rfl) rfl rfl ?_
            refine LR.v (Y.addi rfl rfl rfl (by omega)) (Wd.u rfl) rfl rfl ?_
            refine LR.v (Y.assign rfl rfl) (Wd.u rfl) rfl rfl ?_
            refine LR.nil ?_
            refine hK23 _ _ ?_
            refine hK21 _ _ ?_
            refine hK20 _ _ ?_
            refine CW.region ?_
            refine LR.v (Y.move rfl rfl) (Wd.u rfl) rfl rfl ?_
            refine LR.v (Y.addi rfl rfl rfl (by omega)) (Wd.u rfl) rfl rfl ?_
            refine LR.v (Y.assign rfl rfl) (Wd.u rfl) rfl rfl ?_
            refine LR.nil ?_
            have hrk := rep_ins (expE (es.take n)) j es[n].1 (by omega)
            have e2 := congrArg Prod.snd hrk
            simp only at e2
            refine QN.sub (hN17 (j + 1, vp, kp) _ ?_ ?_) ⟨rfl, rfl, (iv (by omega)), (iv (by omega)), (iv (by omega)), trivial⟩
            · exact ⟨(by omega), by rw [hrk]; exact ow, nx11, hlm2⟩
            · first | omega | (simp only; omega) | (simp; omega)
          ·
            refine CW.skip ?_
            refine hK23 _ _ ?_
            refine hK21 _ _ ?_
            refine hK20 _ _ ?_
            refine CW.region ?_
            refine LR.v (Y.move rfl rfl) (Wd.u rfl) rfl rfl ?_
            refine LR.v (Y.addi rfl rfl rfl (by omega)) (Wd.u rfl) rfl rfl ?_
            refine LR.v (Y.assign rfl rfl) (Wd.u rfl) rfl rfl ?_
            refine LR.nil ?_
            have hrk := rep_ins (expE (es.take n)) j es[n].1 (by omega)
            have e2 := congrArg Prod.snd hrk
            simp only at e2
            refine QN.sub (hN17 (j + 1, vp, kp) _ ?_ ?_) ⟨rfl, rfl, (iv (by omega)), (iv (by omega)), (iv (by omega)), trivial⟩
            · exact ⟨(by omega), by rw [hrk]; exact ow, nx11, hlm2⟩
            · first | omega | (simp only; omega) | (simp; omega)
    ·
      refine CW.exit (hE18 (.exit 2) nofun _ _ (hE17 (.exit 2) nofun _ _ (hX16 _ _ ?_)))
      refine hK14 _ _ ?_
      refine hK13 _ _ ?_
      refine CW.region ?_
      refine LR.v (Y.move rfl rfl) (Wd.u rfl) rfl rfl ?_
      refine LR.v (Y.addi rfl rfl rfl (by omega)) (Wd.u rfl) rfl rfl ?_
      refine LR.v (Y.assign rfl rfl) (Wd.u rfl) rfl rfl ?_
      refine LR.nil ?_
      have hje : es[n].2.toNat = j := by omega
      have e3 : expE (es.take (n + 1)) = expE (es.take n) ++ List.replicate j es[n].1 := by rw [expE_take es n (by omega), hje]
      have e2 : (pfold (expE (es.take (n + 1)))).2 = (pfold (expE (es.take n) ++ List.replicate j es[n].1)).2 := by rw [e3]
      refine QN.sub (hN10 (n + 1, vp, kp) _ ?_ ?_) ⟨rfl, rfl, (iv (by omega)), (iv (by omega)), trivial⟩
      · exact ⟨(by omega), by rw [e3]; exact ow, nx10, hlm1⟩
      · first | omega | (simp only; omega) | (simp; omega)
  ·
    refine CW.exit (hE11 (.exit 0) nofun _ _ (hE10 (.exit 0) nofun _ _ (hX9 _ _ ?_)))
    refine hK7 _ _ ?_
    refine CW.seq (fun K28 hK28 hE28 => ?_)
    refine CW.region ?_
    refine LR.v (Y.move rfl rfl) (Wd.u rfl) rfl rfl ?_
    refine LR.v (Y.assign rfl rfl) (Wd.u rfl) rfl rfl ?_
    refine LR.v (Y.assign rfl rfl) (Wd.u rfl) rfl rfl ?_
    refine LR.nil ?_
    refine hK28 _ _ ?_
    refine CW.ret (hret .ret (.inr rfl) _ _ _ (res2 rfl rfl rfl) ?_)
    obtain rfl : n = es.length := by omega
    rw [List.take_length, hex] at ow
    exact ⟨vo, ko, rfl, ow, nx4, hm0⟩

end Go.Proofs.Ytegfnfhdgbcjbaa.MerD
