/-
  Names: the document's functions, and what fits beside others.
-/
import Derived.Test.YthkhojiodekccaaDoorNamC
namespace Go.Proofs.YthkhojiodekccaaDoor.NamD
open Go.Proofs.YthkhojiodekccaaDoor.E Go.RowKit Go.Proofs.YthkhojiodekccaaDoor.NamA Go.Proofs.YthkhojiodekccaaDoor.NamB Go.Proofs.YthkhojiodekccaaDoor.NamC
set_option maxRecDepth 20000
set_option linter.unusedVariables false
set_option linter.unusedSimpArgs false
set_option linter.unusedSectionVars false

/-- one of two stands below the other -/
def adj (s o : List UInt8) : Bool := (s ++ [47]).isPrefixOf o || (o ++ [47]).isPrefixOf s
def base (s : List UInt8) (l : List (List UInt8)) : Int := if chk s ≠ 0 then chk s else if s ∈ l then 8 else 0
def fitsL (s : List UInt8) (l : List (List UInt8)) : Int := if base s l ≠ 0 then base s l else if l.any (adj s) = true then 13 else 0
theorem mem_take_succ {s : List UInt8} {l : List (List UInt8)} {j : Nat} (h : s ∉ l.take j) (hj : j < l.length) (h2 : s ≠ l[j]) : s ∉ l.take (j + 1) := by
  rw [List.take_succ_eq_append_getElem hj]; simp only [List.mem_append, List.mem_singleton, not_or]; exact ⟨h, h2⟩

theorem index_ct (v : Value) (x : List UInt8) (l : List (List UInt8)) (w0 : World) (H0 : Heap)
    (hl : RdT H0 fS 1 v l) :
    Ct Tryd.prog w0 29 #[v, Str x] H0 (fun r H2 => ∃ n : Int, r = .int .i64 n ∧ ((0 ≤ n ↔ x ∈ l) ∧ -1 ≤ n ∧ n ≤ 9223372036854775807) ∧ Nw H0 H2) := by
  refine Ct.enter (args := [v, Str x]) Tryd.func29 rfl rfl rfl ?_
  intro Q0 hret
  have hm0 : Nw H0 H0 := Mo.refl _ _
  replace hl := hl.bnd
  have bf_hl := Rd.bf hl
  have hll := hl.len
  refine CW.seq (fun K1 hK1 hE1 => ?_)
  refine CW.region ?_
  refine LR.v (Y.assign rfl rfl) (Wd.u rfl) rfl rfl ?_
  refine LR.nil ?_
  refine hK1 _ _ ?_
  refine CW.seq (fun K2 hK2 hE2 => ?_)
  refine CW.seq (fun K3 hK3 hE3 => ?_)
  refine CW.region ?_
  refine LR.v (Y.move rfl rfl) (Wd.u rfl) rfl rfl ?_
  refine LR.v (Y.len hl rfl Tryd.runUnderlying27 rfl) (Wd.u rfl) rfl rfl ?_
  refine LR.v (Y.move rfl rfl) (Wd.u rfl) rfl rfl ?_
  refine LR.nil ?_
  refine hK3 _ _ ?_
  refine CW.block (fun K4 hK4 hX4 hE4 => ?_)
  refine CW.loop (fun (j : (Nat)) => [(0, v), (1, Str x), (7, .int .i64 l.length), (8, .int .i64 j)])
    (fun (j : (Nat)) (H : Heap) => (j ≤ l.length) ∧ (x ∉ l.take j) ∧ Nw H0 H)
    (fun (j : (Nat)) => l.length - j) 0 ⟨rfl, rfl, rfl, rfl, trivial⟩ ?_ ?_
  ·
    exact ⟨(by omega), (fun h => by simp at h), Mo.refl _ _⟩
  intro j HL1 hI1 K5 hN5 hE5
  obtain ⟨hj, ha, hlm1⟩ := hI1
  replace hl := hl.nw hlm1
  replace hm0 := hm0.tr hlm1
  have hz1 := hlm1.size
  refine CW.seq (fun K6 hK6 hE6 => ?_)
  refine CW.region ?_
  refine LR.v (Y.lss rfl rfl rfl) (Wd.u rfl) rfl rfl ?_
  refine LR.nil ?_
  refine hK6 _ _ ?_
  refine CW.seq (fun K7 hK7 hE7 => ?_)
  refine CW.condp rfl (fun c9 => ?_) (fun c9 => ?_)
  ·
    refine CW.skip ?_
    refine hK7 _ _ ?_
    refine CW.seq (fun K8 hK8 hE8 => ?_)
    refine CW.block (fun K9 hK9 hX9 hE9 => ?_)
    refine CW.seq (fun K10 hK10 hE10 => ?_)
    refine CW.region ?_
    refine LR.v (Y.move rfl rfl) (Wd.u rfl) rfl rfl ?_
    refine LR.v (Y.assign rfl rfl) (Wd.u rfl) rfl rfl ?_
    refine LR.nil ?_
    refine hK10 _ _ ?_
    refine CW.seq (fun K11 hK11 hE11 => ?_)
    refine CW.region ?_
    refine LR.v (Y.move rfl rfl) (Wd.u rfl) rfl rfl ?_
    refine LR.v (Y.move rfl rfl) (Wd.u rfl) rfl rfl ?_
    refine LR.v (Y.move rfl rfl) (Wd.u rfl) rfl rfl ?_
    refine LR.e (g := fun ad => .pointer (some ad)) (Y.indexAddrF hl (j) rfl Tryd.runUnderlying27 Tryd.sizeOf9 rfl rfl (by first | rfl | omega) (by first | omega | (simp; omega) | (simp; done))) (Wd.u rfl) rfl rfl (fun ad14 pt14 => ?_)
    have bf_pt14 := bf_hl
    refine LR.v (Y.load1 pt14.pt rfl Tryd.isAgg9 rfl) (Wd.u rfl) rfl rfl ?_
    refine LR.v (Y.seql rfl rfl rfl) (Wd.u rfl) rfl rfl ?_
    refine LR.nil ?_
    refine hK11 _ _ ?_
    refine CW.condp rfl (fun c16 => ?_) (fun c16 => ?_)
    ·
      refine CW.seq (fun K12 hK12 hE12 => ?_)
      refine CW.region ?_
      refine LR.v (Y.move rfl rfl) (Wd.u rfl) rfl rfl ?_
      refine LR.v (Y.assign rfl rfl) (Wd.u rfl) rfl rfl ?_
      refine LR.nil ?_
      refine hK12 _ _ ?_
      refine CW.ret (hE9 .ret nofun (by simp) _ _ (hE8 .ret nofun _ _ (hE5 .ret nofun _ _ (hE4 .ret nofun (by simp) _ _ (hE2 .ret nofun _ _ (hret .ret (.inr rfl) _ _ _ (res1 rfl rfl) ?_))))))
      exact ⟨j, rfl, ⟨⟨fun _ => by rw [c16]; exact List.getElem_mem _, fun _ => by omega⟩, by omega, by omega⟩, hm0⟩
    ·
      refine CW.skip ?_
      refine hK9 _ _ ?_
      refine hK8 _ _ ?_
      refine CW.region ?_
      refine LR.v (Y.addi rfl rfl rfl (by omega)) (Wd.u rfl) rfl rfl ?_
      refine LR.v (Y.move rfl rfl) (Wd.u rfl) rfl rfl ?_
      refine LR.nil ?_
      refine QN.sub (hN5 (j + 1) _ ?_ ?_) ⟨rfl, rfl, (iv (by omega)), (iv (by omega)), trivial⟩
      · exact ⟨(by omega), mem_take_succ ha (by omega) (by simpa using c16), hlm1⟩
      · first | omega | (simp only; omega) | (simp; omega)
  ·
    refine CW.exit (hE7 (.exit 0) nofun _ _ (hE5 (.exit 0) nofun _ _ (hX4 _ _ ?_)))
    refine hK2 _ _ ?_
    refine CW.seq (fun K13 hK13 hE13 => ?_)
    refine CW.region ?_
    refine LR.v (Y.assign rfl rfl) (Wd.u rfl) rfl rfl ?_
    refine LR.nil ?_
    refine hK13 _ _ ?_
    refine CW.ret (hret .ret (.inr rfl) _ _ _ (res1 rfl rfl) ?_)
    exact ⟨-1, rfl, ⟨⟨fun h => by omega, fun h => by rw [List.take_of_length_le (by omega)] at ha; exact absurd h ha⟩, by omega, by omega⟩, hm0⟩

theorem contain_ct (v : Value) (x : List UInt8) (l : List (List UInt8)) (w0 : World) (H0 : Heap)
    (hl : RdT H0 fS 1 v l) :
    Ct Tryd.prog w0 21 #[v, Str x] H0 (fun r H2 => r = .bool (decide (x ∈ l)) ∧ Nw H0 H2) := by
  refine Ct.enter (args := [v, Str x]) Tryd.func21 rfl rfl rfl ?_
  intro Q0 hret
  have hm0 : Nw H0 H0 := Mo.refl _ _
  replace hl := hl.bnd
  have bf_hl := Rd.bf hl
  have hll := hl.len
  refine CW.seq (fun K1 hK1 hE1 => ?_)
  refine CW.region ?_
  refine LR.v (Y.assign rfl rfl) (Wd.u rfl) rfl rfl ?_
  refine LR.nil ?_
  refine hK1 _ _ ?_
  refine CW.seq (fun K2 hK2 hE2 => ?_)
  refine CW.region ?_
  refine LR.v (Y.move rfl rfl) (Wd.u rfl) rfl rfl ?_
  refine LR.v (Y.move rfl rfl) (Wd.u rfl) rfl rfl ?_
  -- call slices.Index[[]string,string]
  refine LR.call rfl Tryd.call29 rfl (Wd.u rfl) rfl rfl (index_ct _ x l w0 _ hl.any) (fun v7 H7 r7 => ?_)
  obtain ⟨n7, rfl, hn7, hs7⟩ := r7
  replace hl := hl.nw hs7
  replace hm0 := hm0.tr hs7
  have hz1 := hs7.size
  refine LR.v (Y.geq rfl rfl rfl) (Wd.u rfl) rfl rfl ?_
  refine LR.v (Y.assign rfl rfl) (Wd.u rfl) rfl rfl ?_
  refine LR.nil ?_
  refine hK2 _ _ ?_
  refine CW.ret (hret .ret (.inr rfl) _ _ _ (res1 rfl rfl) ?_)
  exact ⟨bdec hn7.1, hm0⟩

theorem fits_ct (s : List UInt8) (v : Value) (l : List (List UInt8)) (mx_ : Int) (w0 : World) (H0 : Heap)
    (mx : MX mx_ H0) (bf_mx : BF (fun b => b = 0) H0.size) (hl : RdT H0 fS 1 v l) (hs : s.length ≤ 140737488355328) (hx : ∀ x ∈ l, x.length ≤ 140737488355328) :
    Ct Tryd.prog w0 10 #[Str s, v] H0 (fun r H2 => r = .int .i64 (fitsL s l) ∧ Nw H0 H2) := by
  refine Ct.enter (args := [Str s, v]) Tryd.func10 rfl rfl rfl ?_
  intro Q0 hret
  have hm0 : Nw H0 H0 := Mo.refl _ _
  replace hl := hl.bnd
  have bf_hl := Rd.bf hl
  have hll := hl.len
  refine CW.seq (fun K1 hK1 hE1 => ?_)
  refine CW.region ?_
  refine LR.v (Y.assign rfl rfl) (Wd.u rfl) rfl rfl ?_
  refine LR.nil ?_
  refine hK1 _ _ ?_
  refine CW.seq (fun K2 hK2 hE2 => ?_)
  refine CW.seq (fun K3 hK3 hE3 => ?_)
  refine CW.region ?_
  refine LR.v (Y.move rfl rfl) (Wd.u rfl) rfl rfl ?_
  -- call selvage/name.Check
  refine LR.call rfl Tryd.call8 rfl (Wd.u rfl) rfl rfl (chk_ct s mx_ w0 _ mx bf_mx (by omega)) (fun v9 H9 r9 => ?_)
  obtain ⟨rfl, hs9⟩ := r9
  replace mx := mx.nw hs9
  replace hl := hl.nw hs9
  replace hm0 := hm0.tr hs9
  have hz1 := hs9.size
  refine LR.v (Y.assign rfl rfl) (Wd.u rfl) rfl rfl ?_
  refine LR.nil ?_
  refine hK3 _ _ ?_
  refine CW.seq (fun K4 hK4 hE4 => ?_)
  refine CW.region ?_
  refine LR.v (Y.move rfl rfl) (Wd.u rfl) rfl rfl ?_
  refine LR.v (Y.neq rfl rfl rfl) (Wd.u rfl) rfl rfl ?_
  refine LR.nil ?_
  refine hK4 _ _ ?_
  refine CW.condp rfl (fun c11 => ?_) (fun c11 => ?_)
  ·
    refine CW.seq (fun K5 hK5 hE5 => ?_)
    refine CW.region ?_
    refine LR.v (Y.move rfl rfl) (Wd.u rfl) rfl rfl ?_
    refine LR.v (Y.assign rfl rfl) (Wd.u rfl) rfl rfl ?_
    refine LR.nil ?_
    refine hK5 _ _ ?_
    refine CW.ret (hE2 .ret nofun _ _ (hret .ret (.inr rfl) _ _ _ (res1 rfl rfl) ?_))
    exact ⟨by have hc : chk s ≠ 0 := (by omega); have hb0 : base s l = chk s := (by rw [base, if_pos hc]); rw [fitsL, hb0, if_pos hc], hm0⟩
  ·
    refine CW.skip ?_
    refine hK2 _ _ ?_
    refine CW.seq (fun K6 hK6 hE6 => ?_)
    refine CW.seq (fun K7 hK7 hE7 => ?_)
    refine CW.region ?_
    refine LR.v (Y.move rfl rfl) (Wd.u rfl) rfl rfl ?_
    refine LR.v (Y.move rfl rfl) (Wd.u rfl) rfl rfl ?_
    -- call slices.Contains[[]string,string]
    refine LR.call rfl Tryd.call21 rfl (Wd.u rfl) rfl rfl (contain_ct _ s l w0 _ hl.any) (fun v15 H15 r15 => ?_)
    obtain ⟨rfl, hs15⟩ := r15
    replace mx := mx.nw hs15
    replace hl := hl.nw hs15
    replace hm0 := hm0.tr hs15
    have hz2 := hs15.size
    refine LR.nil ?_
    refine hK7 _ _ ?_
    refine CW.condp rfl (fun c15 => ?_) (fun c15 => ?_)
    ·
      refine CW.seq (fun K8 hK8 hE8 => ?_)
      refine CW.region ?_
      refine LR.v (Y.assign rfl rfl) (Wd.u rfl) rfl rfl ?_
      refine LR.nil ?_
      refine hK8 _ _ ?_
      refine CW.ret (hE6 .ret nofun _ _ (hret .ret (.inr rfl) _ _ _ (res1 rfl rfl) ?_))
      exact ⟨by have hb0 : base s l = 8 := (by rw [base, if_neg (by omega), if_pos c15]); rw [fitsL, hb0, if_pos (by decide)], hm0⟩
    ·
      refine CW.skip ?_
      refine hK6 _ _ ?_
      refine CW.seq (fun K9 hK9 hE9 => ?_)
      refine CW.seq (fun K10 hK10 hE10 => ?_)
      refine CW.region ?_
      refine LR.v (Y.move rfl rfl) (Wd.u rfl) rfl rfl ?_
      refine LR.v (Y.len hl rfl Tryd.runUnderlying27 rfl) (Wd.u rfl) rfl rfl ?_
      refine LR.v (Y.move rfl rfl) (Wd.u rfl) rfl rfl ?_
      refine LR.nil ?_
      refine hK10 _ _ ?_
      refine CW.block (fun K11 hK11 hX11 hE11 => ?_)
      refine CW.loop (fun (j : (Nat)) => [(0, Str s), (16, v), (17, .int .i64 l.length), (18, .int .i64 j)])
        (fun (j : (Nat)) (H : Heap) => (j ≤ l.length) ∧ ((l.take j).any (adj s) = false) ∧ Nw H15 H)
        (fun (j : (Nat)) => l.length - j) 0 ⟨rfl, rfl, rfl, rfl, trivial⟩ ?_ ?_
      ·
        exact ⟨(by omega), rfl, Mo.refl _ _⟩
      intro j HL1 hI1 K12 hN12 hE12
      obtain ⟨hj, ha, hlm1⟩ := hI1
      replace mx := mx.nw hlm1
      replace hl := hl.nw hlm1
      replace hm0 := hm0.tr hlm1
      have hz3 := hlm1.size
      refine CW.seq (fun K13 hK13 hE13 => ?_)
      refine CW.region ?_
      refine LR.v (Y.lss rfl rfl rfl) (Wd.u rfl) rfl rfl ?_
      refine LR.nil ?_
      refine hK13 _ _ ?_
      refine CW.seq (fun K14 hK14 hE14 => ?_)
      refine CW.condp rfl (fun c19 => ?_) (fun c19 => ?_)
      ·
        refine CW.skip ?_
        refine hK14 _ _ ?_
        refine CW.seq (fun K15 hK15 hE15 => ?_)
        refine CW.block (fun K16 hK16 hX16 hE16 => ?_)
        refine CW.seq (fun K17 hK17 hE17 => ?_)
        refine CW.region ?_
        have hjl : j < l.length := by omega
        have hxj := hx l[j] (List.getElem_mem hjl)
        have hb0 : base s l = 0 := by rw [base, if_neg (by omega), if_neg c15]
        refine LR.e (g := fun ad => .pointer (some ad)) (Y.indexAddrF hl (j) rfl Tryd.runUnderlying27 Tryd.sizeOf9 rfl rfl (by first | rfl | omega) (by first | omega | (simp; omega) | (simp; done))) (Wd.u rfl) rfl rfl (fun ad20 pt20 => ?_)
        have bf_pt20 := bf_hl
        refine LR.v (Y.load1 pt20.pt rfl Tryd.isAgg9 rfl) (Wd.u rfl) rfl rfl ?_
        refine LR.v (Y.assign rfl rfl) (Wd.u rfl) rfl rfl ?_
        refine LR.nil ?_
        refine hK17 _ _ ?_
        refine CW.seq (fun K18 hK18 hE18 => ?_)
        refine CW.region ?_
        refine LR.v (Y.move rfl rfl) (Wd.u rfl) rfl rfl ?_
        refine LR.v (Y.move rfl rfl) (Wd.u rfl) rfl rfl ?_
        refine LR.v (Y.sadd rfl rfl rfl (by simp; omega)) (Wd.u rfl) rfl rfl ?_
        -- call strings.HasPrefix
        refine LR.call rfl Tryd.call22 rfl (Wd.u rfl) rfl rfl (hasPre_ct l[j] (s ++ [47]) w0 _) (fun v25 H25 r25 => ?_)
        obtain ⟨rfl, hs25⟩ := r25
        replace mx := mx.nw hs25
        replace hl := hl.nw hs25
        replace hm0 := hm0.tr hs25
        replace hlm1 := hlm1.tr hs25
        have hz4 := hs25.size
        refine LR.v (Y.move rfl rfl) (Wd.u rfl) rfl rfl ?_
        refine LR.split (d := 26) rfl (fun g26 => ?_) (fun g26 => ?_)
        ·
          refine LR.gs rfl rfl rfl rfl rfl rfl ?_
          refine LR.gs rfl rfl rfl rfl rfl rfl ?_
          refine LR.gs rfl rfl rfl rfl rfl rfl ?_
          refine LR.gs rfl rfl rfl rfl rfl rfl ?_
          refine LR.v (Y.pick_t rfl rfl rfl) (Wd.u rfl) rfl rfl ?_
          refine LR.nil ?_
          refine hK18 _ _ ?_
          refine CW.cond_t rfl ?_
          refine CW.seq (fun K19 hK19 hE19 => ?_)
          refine CW.region ?_
          refine LR.v (Y.assign rfl rfl) (Wd.u rfl) rfl rfl ?_
          refine LR.nil ?_
          refine hK19 _ _ ?_
          refine CW.ret (hE16 .ret nofun (by simp) _ _ (hE15 .ret nofun _ _ (hE12 .ret nofun _ _ (hE11 .ret nofun (by simp) _ _ (hE9 .ret nofun _ _ (hret .ret (.inr rfl) _ _ _ (res1 rfl rfl) ?_))))))
          exact ⟨by rw [fitsL, hb0, if_neg (by decide), if_pos (any_at hjl (by unfold adj; first | (rw [g26]; rfl) | (rw [c31, Bool.or_true])))], hm0⟩
        ·
          refine LR.v (Y.move rfl rfl) (Wd.g rfl rfl rfl) rfl rfl ?_
          refine LR.v (Y.move rfl rfl) (Wd.g rfl rfl rfl) rfl rfl ?_
          refine LR.v (Y.sadd rfl rfl rfl (by simp; omega)) (Wd.g rfl rfl rfl) rfl rfl ?_
          -- call strings.HasPrefix
          refine LR.call rfl Tryd.call22 rfl (Wd.g rfl rfl rfl) rfl rfl (hasPre_ct s (l[j] ++ [47]) w0 _) (fun v30 H30 r30 => ?_)
          obtain ⟨rfl, hs30⟩ := r30
          replace mx := mx.nw hs30
          replace hl := hl.nw hs30
          replace hm0 := hm0.tr hs30
          replace hlm1 := hlm1.tr hs30
          have hz5 := hs30.size
          refine LR.v (Y.pick_f rfl rfl rfl) (Wd.u rfl) rfl rfl ?_
          refine LR.nil ?_
          refine hK18 _ _ ?_
          refine CW.cond rfl (fun c31 => ?_) (fun c31 => ?_)
          ·
            refine CW.seq (fun K20 hK20 hE20 => ?_)
            refine CW.region ?_
            refine LR.v (Y.assign rfl rfl) (Wd.u rfl) rfl rfl ?_
            refine LR.nil ?_
            refine hK20 _ _ ?_
            refine CW.ret (hE16 .ret nofun (by simp) _ _ (hE15 .ret nofun _ _ (hE12 .ret nofun _ _ (hE11 .ret nofun (by simp) _ _ (hE9 .ret nofun _ _ (hret .ret (.inr rfl) _ _ _ (res1 rfl rfl) ?_))))))
            exact ⟨by rw [fitsL, hb0, if_neg (by decide), if_pos (any_at hjl (by unfold adj; first | (rw [g26]; rfl) | (rw [c31, Bool.or_true])))], hm0⟩
          ·
            refine CW.skip ?_
            refine hK16 _ _ ?_
            refine hK15 _ _ ?_
            refine CW.region ?_
            refine LR.v (Y.addi rfl rfl rfl (by omega)) (Wd.u rfl) rfl rfl ?_
            refine LR.v (Y.move rfl rfl) (Wd.u rfl) rfl rfl ?_
            refine LR.nil ?_
            refine QN.sub (hN12 (j + 1) _ ?_ ?_) ⟨rfl, rfl, (iv (by omega)), (iv (by omega)), trivial⟩
            · exact ⟨(by omega), any_take ha (by omega) (by unfold adj; rw [Bool.or_eq_false_iff]; exact ⟨g26, c31⟩), hlm1⟩
            · first | omega | (simp only; omega) | (simp; omega)
      ·
        refine CW.exit (hE14 (.exit 0) nofun _ _ (hE12 (.exit 0) nofun _ _ (hX11 _ _ ?_)))
        refine hK9 _ _ ?_
        refine CW.seq (fun K21 hK21 hE21 => ?_)
        refine CW.region ?_
        refine LR.v (Y.assign rfl rfl) (Wd.u rfl) rfl rfl ?_
        refine LR.nil ?_
        refine hK21 _ _ ?_
        refine CW.ret (hret .ret (.inr rfl) _ _ _ (res1 rfl rfl) ?_)
        exact ⟨by have hb0 : base s l = 0 := (by rw [base, if_neg (by omega), if_neg c15]); rw [List.take_of_length_le (by omega)] at ha; rw [fitsL, hb0, if_neg (by decide), if_neg (by rw [ha]; decide)], hm0⟩

end Go.Proofs.YthkhojiodekccaaDoor.NamD
