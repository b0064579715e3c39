/-
  The contract of MergeMarks.
-/
import Derived.Test.YtadgeooceeilpaaMerP
import Derived.Test.YtadgeooceeilpaaMerJ
namespace Go.Proofs.Ytadgeooceeilpaa.MerQ
open Go.Proofs.Ytadgeooceeilpaa.E Go.RowKit Go.Proofs.Ytadgeooceeilpaa.LinM Go.Proofs.Ytadgeooceeilpaa.LinA Go.Proofs.Ytadgeooceeilpaa.LinC Go.Proofs.Ytadgeooceeilpaa.LinF Go.Proofs.Ytadgeooceeilpaa.LinL Go.Proofs.Ytadgeooceeilpaa.LinN Go.Proofs.Ytadgeooceeilpaa.MerA Go.Proofs.Ytadgeooceeilpaa.MerB Go.Proofs.Ytadgeooceeilpaa.MerC Go.Proofs.Ytadgeooceeilpaa.MerD Go.Proofs.Ytadgeooceeilpaa.MerE Go.Proofs.Ytadgeooceeilpaa.MerF Go.Proofs.Ytadgeooceeilpaa.MerG Go.Proofs.Ytadgeooceeilpaa.MerH Go.Proofs.Ytadgeooceeilpaa.MerI Go.Proofs.Ytadgeooceeilpaa.MerJ Go.Proofs.Ytadgeooceeilpaa.MerL Go.Proofs.Ytadgeooceeilpaa.MerM Go.Proofs.Ytadgeooceeilpaa.MerP
set_option linter.unusedVariables false
set_option linter.unusedSimpArgs false
set_option linter.unusedSectionVars false
set_option maxRecDepth 100000 in
theorem inf22 : Inf Try.prog 22 9 1 16 := ⟨Try.underlying22, _, _, rfl, rfl, rfl, rfl, rfl⟩
set_option maxRecDepth 100000 in
theorem inf25 : Inf Try.prog 25 42 4 80 := ⟨Try.underlying25, _, _, rfl, rfl, rfl, rfl, rfl⟩

theorem nl_snoc {s : List UInt8} {k : Nat} (h : k < s.length) : (s.take (k + 1)).filter (fun c => decide (c ≠ 10)) = (s.take k).filter (fun c => decide (c ≠ 10)) ++ (if s[k] ≠ 10 then [s[k]] else []) := by
  rw [List.take_succ_eq_append_getElem h, List.filter_append]
  congr 1
  by_cases e : s[k] = 10
  · rw [if_neg (by simpa using e), List.filter_cons_of_neg (by simpa using e)]; rfl
  · rw [if_pos e, List.filter_cons_of_pos (by simpa using e)]; rfl
theorem nl_take {l : LL} {i : Nat} (h : i < l.length) : (l.take (i + 1)).map nlS = (l.take i).map nlS ++ [nlS l[i]] := by
  rw [List.take_succ_eq_append_getElem h, List.map_append]; rfl
theorem sl_one8 {s : List UInt8} {k : Nat} (h : k < s.length) : (s.take (k + 1)).drop k = [s[k]] := by
  rw [List.take_succ_eq_append_getElem h, List.drop_append_of_le_length (by simp; omega), List.drop_eq_nil_of_le (by simp; omega)]; rfl
theorem clash_snoc {l : List Ck} {i : Nat} (h : i < l.length) : (l.take (i + 1)).filter (fun x => decide (x.k = 4)) = (l.take i).filter (fun x => decide (x.k = 4)) ++ (if l[i].k = 4 then [l[i]] else []) := by
  rw [List.take_succ_eq_append_getElem h, List.filter_append]
  congr 1
  by_cases e : l[i].k = 4
  · rw [if_pos e, List.filter_cons_of_pos (by simpa using e)]; rfl
  · rw [if_neg e, List.filter_cons_of_neg (by simpa using e)]; rfl
theorem filt_map (l : List Ck) : (l.filter (fun x => decide (x.k = 4))).map Ck.c = (l.map Ck.c).filter (fun c => decide (c.1 = 4)) := by
  rw [List.filter_map]; rfl
theorem filt_x {F : Nat → Prop} {H : Heap} {l : List Ck} (h : ∀ x ∈ l, CkR F H x) : ∀ x ∈ l.filter (fun x => decide (x.k = 4)), CkR F H x := fun x hx => h x (List.mem_filter.1 hx).1
theorem filt_len {l : List Ck} {i : Nat} : ((l.take i).filter (fun x => decide (x.k = 4))).length ≤ l.length := Nat.le_trans (List.length_filter_le _ _) (by simp; omega)
theorem markF {b : List UInt8} {x : Bool} (v : Value) (w0 : World) (H0 : Heap) (hb : RdT H0 fB 1 v b) (hbl : b.length ≤ 1048576) (e : marksL b = x) : Ct Try.prog w0 26 #[v] H0 (fun r H2 => r = .bool x ∧ Nw H0 H2) := e ▸ marks_ct v b w0 H0 hb hbl
theorem parseT {b : List UInt8} {cs : List Cn} (v : Value) (w0 : World) (H0 : Heap) (hb : RdT H0 fB 1 v b) (hbl : b.length ≤ 1048576) (e : parseL b = (cs, 0)) : Ct Try.prog w0 24 #[v] H0 (fun r H2 => ∃ v l, r = .tuple #[v, .int .i64 0] ∧ l.map Ck.c = cs ∧ Rd (fun b => H0.size ≤ b) H2 fK 4 v l ∧ (∀ x ∈ l, CkR (fun b => H0.size ≤ b) H2 x) ∧ Nw H0 H2) := by
  refine (parse_ct v b w0 H0 hb hbl).mono ?_
  rintro r H2 ⟨v, l, e2, rfl, h1, h2, h3, h4⟩
  rw [e] at h1
  obtain ⟨h5, rfl⟩ := Prod.mk.inj h1
  exact ⟨v, l, rfl, h5, h2, h3, h4⟩

theorem nended_ct (v : Value) (l : LL) (w0 : World) (H0 : Heap)
    (hl : RdT H0 fS 1 v l) (hok : (∀ s ∈ l, s.length ≤ 1048576) ∧ l.length ≤ 1048576) :
    Ct Try.prog w0 28 #[v] H0 (fun r H2 => ∃ v2 : Value, ∃ k2 : Nat, r = v2 ∧ (Ow k2 9 H2 fS 1 v2 (l.map nlS)) ∧ (Nx 0 H0.size k2) ∧ Nw H0 H2) := by
  refine Ct.enter (args := [v]) Try.func28 rfl rfl rfl ?_
  intro Q0 hret
  have hm0 : Nw H0 H0 := Mo.refl _ _
  replace hl := hl.bnd
  have bf_hl := Rd.bf hl
  refine CW.seq (fun K1 hK1 hE1 => ?_)
  refine CW.region ?_
  refine LR.v (Y.assign rfl rfl) (Wd.u rfl) rfl rfl ?_
  refine LR.nil ?_
  refine hK1 _ _ ?_
  refine CW.seq (fun K2 hK2 hE2 => ?_)
  refine CW.region ?_
  refine LR.v (Y.assign rfl rfl) (Wd.u rfl) rfl rfl ?_
  refine LR.nil ?_
  refine hK2 _ _ ?_
  refine CW.seq (fun K3 hK3 hE3 => ?_)
  refine CW.seq (fun K4 hK4 hE4 => ?_)
  refine CW.region ?_
  refine LR.v (Y.assign rfl rfl) (Wd.u rfl) rfl rfl ?_
  refine LR.nil ?_
  refine hK4 _ _ ?_
  refine CW.block (fun K5 hK5 hX5 hE5 => ?_)
  refine CW.loop (fun (s_ : (Nat) × (Value) × (Nat)) => match s_ with | (i, vo, ko) => [(0, v), (3, vo), (4, .int .i64 i)])
    (fun (s_ : (Nat) × (Value) × (Nat)) (H : Heap) => match s_ with | (i, vo, ko) => (i ≤ l.length) ∧ (Ow ko 9 H fS 1 vo ((l.take i).map nlS)) ∧ (Nx 0 H0.size ko) ∧ Nw H0 H)
    (fun (s_ : (Nat) × (Value) × (Nat)) => match s_ with | (i, vo, ko) => l.length - i) (0, .slice none 0 0, 0) ⟨rfl, rfl, rfl, trivial⟩ ?_ ?_
  ·
    exact ⟨(by omega), Ow.nil fS_len fS_one, Nx.refl _ _, Mo.refl _ _⟩
  rintro ⟨i, vo, ko⟩ HL1 hI1 K6 hN6 hE6
  obtain ⟨hi, ow, nxl_ow, hlm1⟩ := hI1
  have df1 := DF.app (DF.z) (bf_hl.mono hm0.size) nxl_ow
  have nx2 : Nx 0 H0.size ko := Nx.tr (Nx.refl 0 _) nxl_ow hm0.size
  replace hl := hl.nw hlm1
  replace hm0 := hm0.tr hlm1
  have hz1 := hlm1.size
  have hle_ow := ow.le
  have nx3 := nxl_ow
  refine CW.seq (fun K7 hK7 hE7 => ?_)
  refine CW.seq (fun K8 hK8 hE8 => ?_)
  refine CW.region ?_
  refine LR.v (Y.move rfl rfl) (Wd.u rfl) rfl rfl ?_
  refine LR.v (Y.move rfl rfl) (Wd.u rfl) rfl rfl ?_
  refine LR.v (Y.len hl rfl Try.runUnderlying22 rfl) (Wd.u rfl) rfl rfl ?_
  refine LR.v (Y.lss rfl rfl rfl) (Wd.u rfl) rfl rfl ?_
  refine LR.nil ?_
  refine hK8 _ _ ?_
  refine CW.condp rfl (fun c10 => ?_) (fun c10 => ?_)
  ·
    refine CW.skip ?_
    refine hK7 _ _ ?_
    refine CW.seq (fun K9 hK9 hE9 => ?_)
    refine CW.block (fun K10 hK10 hX10 hE10 => ?_)
    refine CW.seq (fun K11 hK11 hE11 => ?_)
    refine CW.region ?_
    refine LR.v (Y.assign rfl rfl) (Wd.u rfl) rfl rfl ?_
    refine LR.nil ?_
    refine hK11 _ _ ?_
    refine CW.seq (fun K12 hK12 hE12 => ?_)
    refine CW.seq (fun K13 hK13 hE13 => ?_)
    refine CW.region ?_
    refine LR.v (Y.assign rfl rfl) (Wd.u rfl) rfl rfl ?_
    refine LR.nil ?_
    refine hK13 _ _ ?_
    refine CW.block (fun K14 hK14 hX14 hE14 => ?_)
    refine CW.loop (fun (k : (Nat)) => [(0, v), (3, vo), (4, .int .i64 i), (5, Str (l[i].take k |>.filter (fun c => decide (c ≠ 10)))), (6, .int .i64 k)])
      (fun (k : (Nat)) (H : Heap) => (k ≤ l[i].length) ∧ Nw HL1 H)
      (fun (k : (Nat)) => l[i].length - k) 0 ⟨rfl, rfl, rfl, rfl, rfl, trivial⟩ ?_ ?_
    ·
      exact ⟨(by omega), Mo.refl _ _⟩
    intro k HL2 hI2 K15 hN15 hE15
    obtain ⟨hk, hlm2⟩ := hI2
    replace hl := hl.nw hlm2
    replace ow := ow.nw hlm2
    replace hm0 := hm0.tr hlm2
    replace hlm1 := hlm1.tr hlm2
    have hz2 := hlm2.size
    have hsl : l[i].length ≤ 1048576 := hok.1 _ (List.getElem_mem (by omega))
    have hfl := List.length_filter_le (fun c : UInt8 => decide (c ≠ 10)) (l[i].take k)
    have hft : (l[i].take k).length ≤ k := by simp; omega
    refine CW.seq (fun K16 hK16 hE16 => ?_)
    refine CW.seq (fun K17 hK17 hE17 => ?_)
    refine CW.region ?_
    refine LR.v (Y.move rfl rfl) (Wd.u rfl) rfl rfl ?_
    refine LR.v (Y.move rfl rfl) (Wd.u rfl) rfl rfl ?_
    refine LR.v (Y.move rfl rfl) (Wd.u rfl) rfl rfl ?_
    have hil : i < l.length := by omega
    refine LR.e (g := fun ad => .pointer (some ad)) (Y.indexAddrF hl (i) rfl Try.runUnderlying22 Try.sizeOf9 rfl rfl (by first | rfl | omega) (by first | omega | (simp; omega) | (simp; done))) (Wd.u rfl) rfl rfl (fun ad16 pt16 => ?_)
    have bf_pt16 := bf_hl
    refine LR.v (Y.load1 pt16.pt rfl Try.isAgg9 rfl) (Wd.u rfl) rfl rfl ?_
    refine LR.v (Y.slen rfl Try.runUnderlying9 rfl) (Wd.u rfl) rfl rfl ?_
    refine LR.v (Y.lss rfl rfl rfl) (Wd.u rfl) rfl rfl ?_
    refine LR.nil ?_
    refine hK17 _ _ ?_
    refine CW.condp rfl (fun c19 => ?_) (fun c19 => ?_)
    ·
      refine CW.skip ?_
      refine hK16 _ _ ?_
      refine CW.seq (fun K18 hK18 hE18 => ?_)
      refine CW.block (fun K19 hK19 hX19 hE19 => ?_)
      refine CW.seq (fun K20 hK20 hE20 => ?_)
      refine CW.region ?_
      refine LR.v (Y.move rfl rfl) (Wd.u rfl) rfl rfl ?_
      refine LR.v (Y.move rfl rfl) (Wd.u rfl) rfl rfl ?_
      refine LR.e (g := fun ad => .pointer (some ad)) (Y.indexAddrF hl (i) rfl Try.runUnderlying22 Try.sizeOf9 rfl rfl (by first | rfl | omega) (by first | omega | (simp; omega) | (simp; done))) (Wd.u rfl) rfl rfl (fun ad24 pt24 => ?_)
      have bf_pt24 := bf_hl
      refine LR.v (Y.load1 pt24.pt rfl Try.isAgg9 rfl) (Wd.u rfl) rfl rfl ?_
      refine LR.v (Y.move rfl rfl) (Wd.u rfl) rfl rfl ?_
      refine LR.v (Y.sindex (k) rfl Try.runUnderlying9 rfl rfl (by first | rfl | omega) (by omega)) (Wd.u rfl) rfl rfl ?_
      refine LR.v (Y.neq rfl rfl rfl) (Wd.u rfl) rfl rfl ?_
      refine LR.nil ?_
      refine hK20 _ _ ?_
      refine CW.condp rfl (fun c28 => ?_) (fun c28 => ?_)
      ·
        refine CW.region ?_
        refine LR.v (Y.move rfl rfl) (Wd.u rfl) rfl rfl ?_
        refine LR.v (Y.move rfl rfl) (Wd.u rfl) rfl rfl ?_
        refine LR.v (Y.move rfl rfl) (Wd.u rfl) rfl rfl ?_
        refine LR.e (g := fun ad => .pointer (some ad)) (Y.indexAddrF hl (i) rfl Try.runUnderlying22 Try.sizeOf9 rfl rfl (by first | rfl | omega) (by first | omega | (simp; omega) | (simp; done))) (Wd.u rfl) rfl rfl (fun ad32 pt32 => ?_)
        have bf_pt32 := bf_hl
        refine LR.v (Y.load1 pt32.pt rfl Try.isAgg9 rfl) (Wd.u rfl) rfl rfl ?_
        refine LR.v (Y.move rfl rfl) (Wd.u rfl) rfl rfl ?_
        refine LR.v (Y.move rfl rfl) (Wd.u rfl) rfl rfl ?_
        refine LR.v (Y.addi rfl rfl rfl (by omega)) (Wd.u rfl) rfl rfl ?_
        refine LR.v (Y.sslice (k) (k + 1) rfl Try.runUnderlying9 rfl (.inr ⟨_, _, _, rfl, rfl, by first | rfl | omega⟩) (.inr ⟨_, _, _, rfl, rfl, by first | rfl | omega⟩) (by omega) (by omega)) (Wd.u rfl) rfl rfl ?_
        refine LR.v (Y.sadd rfl rfl rfl (by have h2 : ((l[i].take (k + 1)).drop k).length ≤ 1 := (by simp; omega); omega)) (Wd.u rfl) rfl rfl ?_
        refine LR.v (Y.assign rfl rfl) (Wd.u rfl) rfl rfl ?_
        refine LR.nil ?_
        refine hK19 _ _ ?_
        refine hK18 _ _ ?_
        refine CW.region ?_
        refine LR.v (Y.move rfl rfl) (Wd.u rfl) rfl rfl ?_
        refine LR.v (Y.addi rfl rfl rfl (by omega)) (Wd.u rfl) rfl rfl ?_
        refine LR.v (Y.assign rfl rfl) (Wd.u rfl) rfl rfl ?_
        refine LR.nil ?_
        have hsn : (l[i].take (k + 1)).filter (fun c => decide (c ≠ 10)) = (l[i].take k).filter (fun c => decide (c ≠ 10)) ++ (l[i].take (k + 1)).drop k := by
          rw [nl_snoc (by omega), sl_one8 (by omega), if_pos (fun e => c28 (by rw [e]; rfl))]
        refine QN.sub (hN15 (k + 1) _ ?_ ?_) ⟨rfl, rfl, (iv (by omega)), (congrArg (fun x => some (Str x)) hsn.symm), (iv (by omega)), trivial⟩
        · exact ⟨(by omega), hlm2⟩
        · first | omega | (simp only; omega) | (simp; omega)
      ·
        refine CW.skip ?_
        refine hK19 _ _ ?_
        refine hK18 _ _ ?_
        refine CW.region ?_
        refine LR.v (Y.move rfl rfl) (Wd.u rfl) rfl rfl ?_
        refine LR.v (Y.addi rfl rfl rfl (by omega)) (Wd.u rfl) rfl rfl ?_
        refine LR.v (Y.assign rfl rfl) (Wd.u rfl) rfl rfl ?_
        refine LR.nil ?_
        have hsn : (l[i].take (k + 1)).filter (fun c => decide (c ≠ 10)) = (l[i].take k).filter (fun c => decide (c ≠ 10)) := by
          rw [nl_snoc (by omega), if_neg (fun e => e ((u8i (n := 10) (by decide)).1 (by first | exact Decidable.not_not.1 c28 | omega))), List.append_nil]
        refine QN.sub (hN15 (k + 1) _ ?_ ?_) ⟨rfl, rfl, (iv (by omega)), (congrArg (fun x => some (Str x)) hsn.symm), (iv (by omega)), trivial⟩
        · exact ⟨(by omega), hlm2⟩
        · first | omega | (simp only; omega) | (simp; omega)
    ·
      refine CW.exit (hE16 (.exit 2) nofun _ _ (hE15 (.exit 2) nofun _ _ (hX14 _ _ ?_)))
      refine hK12 _ _ ?_
      refine CW.region ?_
      refine LR.v (Y.move rfl rfl) (Wd.u rfl) rfl rfl ?_
      refine LR.v (Y.move rfl rfl) (Wd.u rfl) rfl rfl ?_
      refine LR.v (Y.cast (v2 := Str (nlS l[i])) (Y.sadd rfl rfl rfl (by simp only [List.length_append, List.length_cons, List.length_nil]; omega)) (by rw [List.take_of_length_le (by omega)]; rfl)) (Wd.u rfl) rfl rfl ?_
      refine LR.z (Z.litw _ ([nlS l[i]]) rfl inf22 rfl rfl rfl (by decide) (by decide) fS_len fS_one (rfl)) (Wd.u rfl) rfl rfl (fun v42 H42 r42 => ?_)
      obtain ⟨ow42, hs42, ob42, hH42⟩ := r42
      have hzs42 : H42.size = HL2.size + 1 := by rw [hH42]; simp
      have df4 := (DF.new (bf_hl.mono hm0.size) : DF _ (HL2.size + 1))
      have dj5 : Dj ko (HL2.size + 1) := Dj.new ow.le
      have nx6 : Nx 0 H0.size (HL2.size + 1) := Nx.new hm0.size
      have nx7 : Nx 0 H0.size (HL2.size + 1) := Nx.new hlm1.size
      replace hl := hl.nw hs42
      replace ow := ow.nw hs42
      replace hm0 := hm0.tr hs42
      replace hlm1 := hlm1.tr hs42
      have hz3 := hs42.size
      refine LR.z (Z.apnd ow ow42.rd rfl inf22 rfl rfl (by simp; omega) (by simp; omega)) (Wd.u rfl) rfl rfl (fun v43 H43 r43 => ?_)
      obtain ⟨k43, ow, hk43, hs43⟩ := r43
      replace hk43 : Nx ko H42.size k43 := hk43
      replace hs43 := hs43.md
      have df8 := DF.app (df1) (bf_hl.mono hm0.size) hk43
      have dj9 : Dj (HL2.size + 1) k43 := Dj.app (dj5.symm) ow42.le hk43
      have nx10 : Nx 0 H0.size k43 := Nx.tr (nx2) hk43 hm0.size
      have nx11 : Nx 0 H0.size k43 := Nx.tr (nx3) hk43 hlm1.size
      replace hl := hl.upL hs43 (DFL.cons df1 DFL.nil)
      replace ow42 := ow42.upL hs43 (DL.cons dj5.symm DL.nil)
      replace hm0 := (Mo.trL (ks := []) (hm0.mdn []) hs43 (MIL.cons (MI.app MI.z (nx2) (Nat.le_refl _)) MIL.nil)).nil
      replace hlm1 := (Mo.trL (ks := []) (hlm1.mdn []) hs43 (MIL.cons (MI.app MI.z (nx3) (Nat.le_refl _)) MIL.nil)).nil
      have hz4 := hs43.size
      have hle_ow := ow.le
      refine LR.v (Y.assign rfl rfl) (Wd.u rfl) rfl rfl ?_
      refine LR.nil ?_
      refine hK10 _ _ ?_
      refine hK9 _ _ ?_
      refine CW.region ?_
      refine LR.v (Y.move rfl rfl) (Wd.u rfl) rfl rfl ?_
      refine LR.v (Y.addi rfl rfl rfl (by omega)) (Wd.u rfl) rfl rfl ?_
      refine LR.v (Y.assign rfl rfl) (Wd.u rfl) rfl rfl ?_
      refine LR.nil ?_
      refine QN.sub (hN6 (i + 1, v43, k43) _ ?_ ?_) ⟨rfl, rfl, (iv (by omega)), trivial⟩
      · exact ⟨(by omega), by rw [nl_take (by omega)]; exact ow, nx11, hlm1⟩
      · first | omega | (simp only; omega) | (simp; omega)
  ·
    refine CW.exit (hE7 (.exit 0) nofun _ _ (hE6 (.exit 0) nofun _ _ (hX5 _ _ ?_)))
    refine hK3 _ _ ?_
    refine CW.seq (fun K21 hK21 hE21 => ?_)
    refine CW.region ?_
    refine LR.v (Y.move rfl rfl) (Wd.u rfl) rfl rfl ?_
    refine LR.v (Y.assign rfl rfl) (Wd.u rfl) rfl rfl ?_
    refine LR.nil ?_
    refine hK21 _ _ ?_
    refine CW.ret (hret .ret (.inr rfl) _ _ _ (res1 rfl rfl) ?_)
    obtain rfl : i = l.length := by omega
    rw [List.take_length] at ow
    exact ⟨vo, ko, rfl, ow, nx2, hm0⟩

set_option maxRecDepth 20000 in
set_option maxHeartbeats 16000000 in
theorem mergeMarks_ct (v1 v2 v3 : Value) (a o t : LL) (w0 : World) (H0 : Heap)
    (ha : RdT H0 fS 1 v1 a) (ho : RdT H0 fS 1 v2 o) (ht : RdT H0 fS 1 v3 t) (hal : (∀ s ∈ a, s.length ≤ 1048576) ∧ a.length ≤ 1048576) (hol : (∀ s ∈ o, s.length ≤ 1048576) ∧ o.length ≤ 1048576) (htl : (∀ s ∈ t, s.length ≤ 1048576) ∧ t.length ≤ 1048576) :
    Ct Try.prog w0 9 #[v1, v2, v3] H0 (fun r H2 => r = .bool true ∧ Nw H0 H2) := by
  refine Ct.enter (args := [v1, v2, v3]) Try.func9 rfl rfl rfl ?_
  intro Q0 hret
  have hm0 : Nw H0 H0 := Mo.refl _ _
  replace ha := ha.bnd
  have bf_ha := Rd.bf ha
  replace ho := ho.bnd
  have bf_ho := Rd.bf ho
  replace ht := ht.bnd
  have bf_ht := Rd.bf ht
  refine CW.seq (fun K1 hK1 hE1 => ?_)
  refine CW.region ?_
  refine LR.v (Y.assign rfl rfl) (Wd.u rfl) rfl rfl ?_
  refine LR.nil ?_
  refine hK1 _ _ ?_
  refine CW.seq (fun K2 hK2 hE2 => ?_)
  refine CW.seq (fun K3 hK3 hE3 => ?_)
  refine CW.region ?_
  -- call selvage/selvagelaw14.known
  refine LR.call rfl Try.call10 rfl (Wd.u rfl) rfl rfl (known_ct w0 _) (fun v21 H21 r21 => ?_)
  obtain ⟨rfl, hs21⟩ := r21
  replace ha := ha.nw hs21
  replace ho := ho.nw hs21
  replace ht := ht.nw hs21
  replace hm0 := hm0.tr hs21
  have hz1 := hs21.size
  refine LR.v (Y.not rfl rfl) (Wd.u rfl) rfl rfl ?_
  refine LR.nil ?_
  refine hK3 _ _ ?_
  refine CW.cond_f rfl ?_
  refine CW.skip ?_
  refine hK2 _ _ ?_
  refine CW.seq (fun K4 hK4 hE4 => ?_)
  refine CW.seq (fun K5 hK5 hE5 => ?_)
  refine CW.region ?_
  refine LR.v (Y.move rfl rfl) (Wd.u rfl) rfl rfl ?_
  refine LR.v (Y.move rfl rfl) (Wd.u rfl) rfl rfl ?_
  refine LR.v (Y.move rfl rfl) (Wd.u rfl) rfl rfl ?_
  -- call selvage/selvagelaw14.few
  refine LR.call rfl Try.call11 rfl (Wd.u rfl) rfl rfl (few_ct3 _ _ _ a o t w0 _ ha.any ho.any ht.any hal hol htl) (fun v26 H26 r26 => ?_)
  obtain ⟨rfl, hs26⟩ := r26
  replace ha := ha.nw hs26
  replace ho := ho.nw hs26
  replace ht := ht.nw hs26
  replace hm0 := hm0.tr hs26
  have hz2 := hs26.size
  refine LR.v (Y.notp rfl rfl) (Wd.u rfl) rfl rfl ?_
  refine LR.nil ?_
  refine hK5 _ _ ?_
  refine CW.condp rfl (fun c27 => ?_) (fun c27 => ?_)
  ·
    refine CW.seq (fun K6 hK6 hE6 => ?_)
    refine CW.region ?_
    refine LR.v (Y.assign rfl rfl) (Wd.u rfl) rfl rfl ?_
    refine LR.nil ?_
    refine hK6 _ _ ?_
    refine CW.ret (hE4 .ret nofun _ _ (hret .ret (.inr rfl) _ _ _ (res1 rfl rfl) ?_))
    exact ⟨rfl, hm0⟩
  ·
    obtain ⟨fa, fo, ft⟩ := Decidable.not_not.1 c27
    obtain ⟨fa1, fa2⟩ := Few.flat fa
    obtain ⟨fo1, fo2⟩ := Few.flat fo
    obtain ⟨ft1, ft2⟩ := Few.flat ft
    refine CW.skip ?_
    refine hK4 _ _ ?_
    refine CW.seq (fun K7 hK7 hE7 => ?_)
    refine CW.region ?_
    refine LR.v (Y.move rfl rfl) (Wd.u rfl) rfl rfl ?_
    -- call selvage/selvagelaw14.ended
    refine LR.call rfl Try.call28 rfl (Wd.u rfl) rfl rfl (nended_ct _ a w0 _ ha.any hal) (fun v29 H29 r29 => ?_)
    obtain ⟨v229, kA, rfl, oA, hk29, hs29⟩ := r29
    have df1 := DF.app (DF.z) (bf_ha.mono hm0.size) hk29
    have df2 := DF.app (DF.z) (bf_ho.mono hm0.size) hk29
    have df3 := DF.app (DF.z) (bf_ht.mono hm0.size) hk29
    have nx4 : Nx 0 H0.size kA := Nx.tr (Nx.refl 0 _) hk29 hm0.size
    replace ha := ha.nw hs29
    replace ho := ho.nw hs29
    replace ht := ht.nw hs29
    replace hm0 := hm0.tr hs29
    have hz3 := hs29.size
    have hle_oA := oA.le
    have eA := nl_all a
    have lA : (a.map nlS).length = a.length := by simp
    have fA := nl_len a
    obtain ⟨A, hA⟩ : ∃ X, a.map nlS = X := ⟨_, rfl⟩
    rw [hA] at oA eA lA fA
    have sA : (splitL [] A.flatten).length ≤ 4000 := by rw [split_eol _ eA]; omega
    refine LR.v (Y.move rfl rfl) (Wd.u rfl) rfl rfl ?_
    -- call selvage/selvagelaw14.ended
    refine LR.call rfl Try.call28 rfl (Wd.u rfl) rfl rfl (nended_ct _ o w0 _ ho.any hol) (fun v31 H31 r31 => ?_)
    obtain ⟨v231, kO, rfl, oO, hk31, hs31⟩ := r31
    have df5 := DF.app (DF.z) (bf_ha.mono hm0.size) hk31
    have df6 := DF.app (DF.z) (bf_ho.mono hm0.size) hk31
    have df7 := DF.app (DF.z) (bf_ht.mono hm0.size) hk31
    have dj8 : Dj kA kO := Dj.app (Dj.z) oA.le hk31
    have nx9 : Nx 0 H0.size kO := Nx.tr (Nx.refl 0 _) hk31 hm0.size
    replace ha := ha.nw hs31
    replace ho := ho.nw hs31
    replace ht := ht.nw hs31
    replace oA := oA.nw hs31
    replace hm0 := hm0.tr hs31
    have hz4 := hs31.size
    have hle_oO := oO.le
    have eO := nl_all o
    have lO : (o.map nlS).length = o.length := by simp
    have fO := nl_len o
    obtain ⟨O, hO⟩ : ∃ X, o.map nlS = X := ⟨_, rfl⟩
    rw [hO] at oO eO lO fO
    have sO : (splitL [] O.flatten).length ≤ 4000 := by rw [split_eol _ eO]; omega
    refine LR.v (Y.move rfl rfl) (Wd.u rfl) rfl rfl ?_
    -- call selvage/selvagelaw14.ended
    refine LR.call rfl Try.call28 rfl (Wd.u rfl) rfl rfl (nended_ct _ t w0 _ ht.any htl) (fun v33 H33 r33 => ?_)
    obtain ⟨v233, kT, rfl, oT, hk33, hs33⟩ := r33
    have df10 := DF.app (DF.z) (bf_ha.mono hm0.size) hk33
    have df11 := DF.app (DF.z) (bf_ho.mono hm0.size) hk33
    have df12 := DF.app (DF.z) (bf_ht.mono hm0.size) hk33
    have dj13 : Dj kA kT := Dj.app (Dj.z) oA.le hk33
    have dj14 : Dj kO kT := Dj.app (Dj.z) oO.le hk33
    have nx15 : Nx 0 H0.size kT := Nx.tr (Nx.refl 0 _) hk33 hm0.size
    replace ha := ha.nw hs33
    replace ho := ho.nw hs33
    replace ht := ht.nw hs33
    replace oA := oA.nw hs33
    replace oO := oO.nw hs33
    replace hm0 := hm0.tr hs33
    have hz5 := hs33.size
    have hle_oT := oT.le
    have eT := nl_all t
    have lT : (t.map nlS).length = t.length := by simp
    have fT := nl_len t
    obtain ⟨T, hT⟩ : ∃ X, t.map nlS = X := ⟨_, rfl⟩
    rw [hT] at oT eT lT fT
    have sT : (splitL [] T.flatten).length ≤ 4000 := by rw [split_eol _ eT]; omega
    refine LR.v (Y.assign rfl rfl) (Wd.u rfl) rfl rfl ?_
    refine LR.v (Y.assign rfl rfl) (Wd.u rfl) rfl rfl ?_
    refine LR.v (Y.assign rfl rfl) (Wd.u rfl) rfl rfl ?_
    refine LR.nil ?_
    refine hK7 _ _ ?_
    refine CW.seq (fun K8 hK8 hE8 => ?_)
    refine CW.seq (fun K9 hK9 hE9 => ?_)
    refine CW.region ?_
    refine LR.v (Y.move rfl rfl) (Wd.u rfl) rfl rfl ?_
    -- call selvage/selvageref12.Join
    refine LR.call rfl Try.call18 rfl (Wd.u rfl) rfl rfl (rjoin3 _ A w0 _ oA.rd.any (by omega)) (fun v35 H35 r35 => ?_)
    obtain ⟨v35, kj35, rfl, j35, hk35, hs35⟩ := r35
    have df16 := DF.app (DF.z) (bf_ha.mono hm0.size) hk35
    have df17 := DF.app (DF.z) (bf_ho.mono hm0.size) hk35
    have df18 := DF.app (DF.z) (bf_ht.mono hm0.size) hk35
    have dj19 : Dj kA kj35 := Dj.app (Dj.z) oA.le hk35
    have dj20 : Dj kO kj35 := Dj.app (Dj.z) oO.le hk35
    have dj21 : Dj kT kj35 := Dj.app (Dj.z) oT.le hk35
    have nx22 : Nx 0 H0.size kj35 := Nx.tr (Nx.refl 0 _) hk35 hm0.size
    replace ha := ha.nw hs35
    replace ho := ho.nw hs35
    replace ht := ht.nw hs35
    replace oA := oA.nw hs35
    replace oO := oO.nw hs35
    replace oT := oT.nw hs35
    replace hm0 := hm0.tr hs35
    have hz6 := hs35.size
    have hle_j35 := j35.le
    -- call selvage/merge3.Marks
    refine LR.call rfl Try.call26 rfl (Wd.u rfl) rfl rfl (marks_ct _ A.flatten w0 _ j35.rd.any (by omega)) (fun v36 H36 r36 => ?_)
    obtain ⟨rfl, hs36⟩ := r36
    replace ha := ha.nw hs36
    replace ho := ho.nw hs36
    replace ht := ht.nw hs36
    replace oA := oA.nw hs36
    replace oO := oO.nw hs36
    replace oT := oT.nw hs36
    replace j35 := j35.nw hs36
    replace hm0 := hm0.tr hs36
    have hz7 := hs36.size
    refine LR.v (Y.move rfl rfl) (Wd.u rfl) rfl rfl ?_
    refine LR.split (d := 37) rfl (fun g37 => ?_) (fun g37 => ?_)
    ·
      refine LR.gs rfl rfl rfl rfl rfl rfl ?_
      refine LR.gs rfl rfl rfl rfl rfl rfl ?_
      refine LR.gs rfl rfl rfl rfl rfl rfl ?_
      refine LR.v (Y.pick_t rfl rfl rfl) (Wd.u rfl) rfl rfl ?_
      refine LR.v (Y.move rfl rfl) (Wd.u rfl) rfl rfl ?_
      refine LR.gs rfl rfl rfl rfl rfl rfl ?_
      refine LR.gs rfl rfl rfl rfl rfl rfl ?_
      refine LR.gs rfl rfl rfl rfl rfl rfl ?_
      refine LR.v (Y.pick_t rfl rfl rfl) (Wd.u rfl) rfl rfl ?_
      refine LR.nil ?_
      refine hK9 _ _ ?_
      refine CW.cond_t rfl ?_
      refine CW.seq (fun K10 hK10 hE10 => ?_)
      refine CW.region ?_
      refine LR.v (Y.assign rfl rfl) (Wd.u rfl) rfl rfl ?_
      refine LR.nil ?_
      refine hK10 _ _ ?_
      refine CW.ret (hE8 .ret nofun _ _ (hret .ret (.inr rfl) _ _ _ (res1 rfl rfl) ?_))
      exact ⟨rfl, hm0⟩
    ·
      refine LR.v (Y.move rfl rfl) (Wd.g rfl rfl rfl) rfl rfl ?_
      -- call selvage/selvageref12.Join
      refine LR.call rfl Try.call18 rfl (Wd.g rfl rfl rfl) rfl rfl (rjoin3 _ O w0 _ oO.rd.any (by omega)) (fun v39 H39 r39 => ?_)
      obtain ⟨v39, kj39, rfl, j39, hk39, hs39⟩ := r39
      have df23 := DF.app (DF.z) (bf_ha.mono hm0.size) hk39
      have df24 := DF.app (DF.z) (bf_ho.mono hm0.size) hk39
      have df25 := DF.app (DF.z) (bf_ht.mono hm0.size) hk39
      have dj26 : Dj kA kj39 := Dj.app (Dj.z) oA.le hk39
      have dj27 : Dj kO kj39 := Dj.app (Dj.z) oO.le hk39
      have dj28 : Dj kT kj39 := Dj.app (Dj.z) oT.le hk39
      have dj29 : Dj kj35 kj39 := Dj.app (Dj.z) j35.le hk39
      have nx30 : Nx 0 H0.size kj39 := Nx.tr (Nx.refl 0 _) hk39 hm0.size
      replace ha := ha.nw hs39
      replace ho := ho.nw hs39
      replace ht := ht.nw hs39
      replace oA := oA.nw hs39
      replace oO := oO.nw hs39
      replace oT := oT.nw hs39
      replace j35 := j35.nw hs39
      replace hm0 := hm0.tr hs39
      have hz8 := hs39.size
      have hle_j39 := j39.le
      -- call selvage/merge3.Marks
      refine LR.call rfl Try.call26 rfl (Wd.g rfl rfl rfl) rfl rfl (marks_ct _ O.flatten w0 _ j39.rd.any (by omega)) (fun v40 H40 r40 => ?_)
      obtain ⟨rfl, hs40⟩ := r40
      replace ha := ha.nw hs40
      replace ho := ho.nw hs40
      replace ht := ht.nw hs40
      replace oA := oA.nw hs40
      replace oO := oO.nw hs40
      replace oT := oT.nw hs40
      replace j35 := j35.nw hs40
      replace j39 := j39.nw hs40
      replace hm0 := hm0.tr hs40
      have hz9 := hs40.size
      refine LR.v (Y.pick_f rfl rfl rfl) (Wd.u rfl) rfl rfl ?_
      refine LR.v (Y.move rfl rfl) (Wd.u rfl) rfl rfl ?_
      refine LR.split (d := 42) rfl (fun g42 => ?_) (fun g42 => ?_)
      ·
        refine LR.gs rfl rfl rfl rfl rfl rfl ?_
        refine LR.gs rfl rfl rfl rfl rfl rfl ?_
        refine LR.gs rfl rfl rfl rfl rfl rfl ?_
        refine LR.v (Y.pick_t rfl rfl rfl) (Wd.u rfl) rfl rfl ?_
        refine LR.nil ?_
        refine hK9 _ _ ?_
        refine CW.cond_t rfl ?_
        refine CW.seq (fun K11 hK11 hE11 => ?_)
        refine CW.region ?_
        refine LR.v (Y.assign rfl rfl) (Wd.u rfl) rfl rfl ?_
        refine LR.nil ?_
        refine hK11 _ _ ?_
        refine CW.ret (hE8 .ret nofun _ _ (hret .ret (.inr rfl) _ _ _ (res1 rfl rfl) ?_))
        exact ⟨rfl, hm0⟩
      ·
        refine LR.v (Y.move rfl rfl) (Wd.g rfl rfl rfl) rfl rfl ?_
        -- call selvage/selvageref12.Join
        refine LR.call rfl Try.call18 rfl (Wd.g rfl rfl rfl) rfl rfl (rjoin3 _ T w0 _ oT.rd.any (by omega)) (fun v44 H44 r44 => ?_)
        obtain ⟨v44, kj44, rfl, j44, hk44, hs44⟩ := r44
        have df31 := DF.app (DF.z) (bf_ha.mono hm0.size) hk44
        have df32 := DF.app (DF.z) (bf_ho.mono hm0.size) hk44
        have df33 := DF.app (DF.z) (bf_ht.mono hm0.size) hk44
        have dj34 : Dj kA kj44 := Dj.app (Dj.z) oA.le hk44
        have dj35 : Dj kO kj44 := Dj.app (Dj.z) oO.le hk44
        have dj36 : Dj kT kj44 := Dj.app (Dj.z) oT.le hk44
        have dj37 : Dj kj35 kj44 := Dj.app (Dj.z) j35.le hk44
        have dj38 : Dj kj39 kj44 := Dj.app (Dj.z) j39.le hk44
        have nx39 : Nx 0 H0.size kj44 := Nx.tr (Nx.refl 0 _) hk44 hm0.size
        replace ha := ha.nw hs44
        replace ho := ho.nw hs44
        replace ht := ht.nw hs44
        replace oA := oA.nw hs44
        replace oO := oO.nw hs44
        replace oT := oT.nw hs44
        replace j35 := j35.nw hs44
        replace j39 := j39.nw hs44
        replace hm0 := hm0.tr hs44
        have hz10 := hs44.size
        have hle_j44 := j44.le
        -- call selvage/merge3.Marks
        refine LR.call rfl Try.call26 rfl (Wd.g rfl rfl rfl) rfl rfl (marks_ct _ T.flatten w0 _ j44.rd.any (by omega)) (fun v45 H45 r45 => ?_)
        obtain ⟨rfl, hs45⟩ := r45
        replace ha := ha.nw hs45
        replace ho := ho.nw hs45
        replace ht := ht.nw hs45
        replace oA := oA.nw hs45
        replace oO := oO.nw hs45
        replace oT := oT.nw hs45
        replace j35 := j35.nw hs45
        replace j39 := j39.nw hs45
        replace j44 := j44.nw hs45
        replace hm0 := hm0.tr hs45
        have hz11 := hs45.size
        refine LR.v (Y.pick_f rfl rfl rfl) (Wd.u rfl) rfl rfl ?_
        refine LR.nil ?_
        refine hK9 _ _ ?_
        refine CW.cond rfl (fun c46 => ?_) (fun c46 => ?_)
        ·
          refine CW.seq (fun K12 hK12 hE12 => ?_)
          refine CW.region ?_
          refine LR.v (Y.assign rfl rfl) (Wd.u rfl) rfl rfl ?_
          refine LR.nil ?_
          refine hK12 _ _ ?_
          refine CW.ret (hE8 .ret nofun _ _ (hret .ret (.inr rfl) _ _ _ (res1 rfl rfl) ?_))
          exact ⟨rfl, hm0⟩
        ·
          have nA := nomark eA (by assumption)
          have nO := nomark eO (by assumption)
          have nT := nomark eT (by assumption)
          have hok := chunks_ok4 eA eO eT
          have hnm := chunks_allc nA nO nT
          have hrl := rend_le3 A O T
          have hcl := chunks_len A O T
          obtain ⟨cs, hcs⟩ : ∃ cs, chunksL A O T = cs := ⟨_, rfl⟩
          have hme := mch_eol eA eO eT
          rw [hcs] at hok hnm hrl hcl hme
          refine CW.skip ?_
          refine hK8 _ _ ?_
          refine CW.seq (fun K13 hK13 hE13 => ?_)
          refine CW.region ?_
          refine LR.v (Y.move rfl rfl) (Wd.u rfl) rfl rfl ?_
          refine LR.v (Y.move rfl rfl) (Wd.u rfl) rfl rfl ?_
          refine LR.v (Y.move rfl rfl) (Wd.u rfl) rfl rfl ?_
          -- call selvage/merge3.Chunks
          refine LR.call rfl Try.call12 rfl (Wd.u rfl) rfl rfl (chunks_ct _ _ _ A O T w0 _ oA.rd.any oO.rd.any oT.rd.any (by omega) (by omega) (by omega)) (fun v51 H51 r51 => ?_)
          obtain ⟨vl, l, rfl, hll, hrl, hxl, hs51⟩ := r51
          replace ha := ha.nw hs51
          replace ho := ho.nw hs51
          replace ht := ht.nw hs51
          replace oA := oA.nw hs51
          replace oO := oO.nw hs51
          replace oT := oT.nw hs51
          replace j35 := j35.nw hs51
          replace j39 := j39.nw hs51
          replace j44 := j44.nw hs51
          replace hm0 := hm0.tr hs51
          have hz12 := hs51.size
          replace hrl := hrl.bnd
          have bf_hrl := Rd.bf hrl
          have df40 : DF (fun b => H45.size ≤ b ∧ b < H51.size) kA := DF.above (fun b h => h.1) (by first | exact hle_oA | exact hlt_oA | omega)
          have df41 : DF (fun b => H45.size ≤ b ∧ b < H51.size) kO := DF.above (fun b h => h.1) (by first | exact hle_oO | exact hlt_oO | omega)
          have df42 : DF (fun b => H45.size ≤ b ∧ b < H51.size) kT := DF.above (fun b h => h.1) (by first | exact hle_oT | exact hlt_oT | omega)
          have df43 : DF (fun b => H45.size ≤ b ∧ b < H51.size) kj35 := DF.above (fun b h => h.1) (by first | exact hle_j35 | exact hlt_j35 | omega)
          have df44 : DF (fun b => H45.size ≤ b ∧ b < H51.size) kj39 := DF.above (fun b h => h.1) (by first | exact hle_j39 | exact hlt_j39 | omega)
          have df45 : DF (fun b => H45.size ≤ b ∧ b < H51.size) kj44 := DF.above (fun b h => h.1) (by first | exact hle_j44 | exact hlt_j44 | omega)
          replace hxl := fun x hx_ => (hxl x hx_).bnd
          have bf_hxl : BF (fun b => H45.size ≤ b ∧ b < H51.size) H51.size := fun b h => h.2
          have df46 : DF (fun b => H45.size ≤ b ∧ b < H51.size) kA := DF.above (fun b h => h.1) (by first | exact hle_oA | exact hlt_oA | omega)
          have df47 : DF (fun b => H45.size ≤ b ∧ b < H51.size) kO := DF.above (fun b h => h.1) (by first | exact hle_oO | exact hlt_oO | omega)
          have df48 : DF (fun b => H45.size ≤ b ∧ b < H51.size) kT := DF.above (fun b h => h.1) (by first | exact hle_oT | exact hlt_oT | omega)
          have df49 : DF (fun b => H45.size ≤ b ∧ b < H51.size) kj35 := DF.above (fun b h => h.1) (by first | exact hle_j35 | exact hlt_j35 | omega)
          have df50 : DF (fun b => H45.size ≤ b ∧ b < H51.size) kj39 := DF.above (fun b h => h.1) (by first | exact hle_j39 | exact hlt_j39 | omega)
          have df51 : DF (fun b => H45.size ≤ b ∧ b < H51.size) kj44 := DF.above (fun b h => h.1) (by first | exact hle_j44 | exact hlt_j44 | omega)
          rw [hcs] at hll
          have hlln := congrArg List.length hll
          rw [List.length_map] at hlln
          refine LR.v (Y.move rfl rfl) (Wd.u rfl) rfl rfl ?_
          refine LR.v (Y.extract rfl rfl rfl) (Wd.u rfl) rfl rfl ?_
          refine LR.v (Y.extract rfl rfl rfl) (Wd.u rfl) rfl rfl ?_
          refine LR.v (Y.assign rfl rfl) (Wd.u rfl) rfl rfl ?_
          refine LR.v (Y.assign rfl rfl) (Wd.u rfl) rfl rfl ?_
          refine LR.nil ?_
          refine hK13 _ _ ?_
          refine CW.seq (fun K14 hK14 hE14 => ?_)
          refine CW.region ?_
          refine LR.v (Y.move rfl rfl) (Wd.u rfl) rfl rfl ?_
          -- call selvage/selvageref12.Join
          refine LR.call rfl Try.call18 rfl (Wd.u rfl) rfl rfl (rjoin3 _ A w0 _ oA.rd.any (by omega)) (fun v56 H56 r56 => ?_)
          obtain ⟨v56, kj56, rfl, j56, hk56, hs56⟩ := r56
          have df52 := DF.app (DF.z) (bf_ha.mono hm0.size) hk56
          have df53 := DF.app (DF.z) (bf_ho.mono hm0.size) hk56
          have df54 := DF.app (DF.z) (bf_ht.mono hm0.size) hk56
          have dj55 : Dj kA kj56 := Dj.app (Dj.z) oA.le hk56
          have dj56 : Dj kO kj56 := Dj.app (Dj.z) oO.le hk56
          have dj57 : Dj kT kj56 := Dj.app (Dj.z) oT.le hk56
          have dj58 : Dj kj35 kj56 := Dj.app (Dj.z) j35.le hk56
          have dj59 : Dj kj39 kj56 := Dj.app (Dj.z) j39.le hk56
          have dj60 : Dj kj44 kj56 := Dj.app (Dj.z) j44.le hk56
          have df61 := DF.app (DF.z) (bf_hrl.mono (by omega)) hk56
          have df62 := DF.app (DF.z) (bf_hxl.mono (by omega)) hk56
          have nx63 : Nx 0 H0.size kj56 := Nx.tr (Nx.refl 0 _) hk56 hm0.size
          replace ha := ha.nw hs56
          replace ho := ho.nw hs56
          replace ht := ht.nw hs56
          replace oA := oA.nw hs56
          replace oO := oO.nw hs56
          replace oT := oT.nw hs56
          replace j35 := j35.nw hs56
          replace j39 := j39.nw hs56
          replace j44 := j44.nw hs56
          replace hrl := hrl.nw hs56
          replace hxl := fun x hx_ => (hxl x hx_).nw hs56
          replace hm0 := hm0.tr hs56
          have hz13 := hs56.size
          have hle_j56 := j56.le
          refine LR.v (Y.move rfl rfl) (Wd.u rfl) rfl rfl ?_
          -- call selvage/selvageref12.Join
          refine LR.call rfl Try.call18 rfl (Wd.u rfl) rfl rfl (rjoin3 _ O w0 _ oO.rd.any (by omega)) (fun v58 H58 r58 => ?_)
          obtain ⟨v58, kj58, rfl, j58, hk58, hs58⟩ := r58
          have df64 := DF.app (DF.z) (bf_ha.mono hm0.size) hk58
          have df65 := DF.app (DF.z) (bf_ho.mono hm0.size) hk58
          have df66 := DF.app (DF.z) (bf_ht.mono hm0.size) hk58
          have dj67 : Dj kA kj58 := Dj.app (Dj.z) oA.le hk58
          have dj68 : Dj kO kj58 := Dj.app (Dj.z) oO.le hk58
          have dj69 : Dj kT kj58 := Dj.app (Dj.z) oT.le hk58
          have dj70 : Dj kj35 kj58 := Dj.app (Dj.z) j35.le hk58
          have dj71 : Dj kj39 kj58 := Dj.app (Dj.z) j39.le hk58
          have dj72 : Dj kj44 kj58 := Dj.app (Dj.z) j44.le hk58
          have df73 := DF.app (DF.z) (bf_hrl.mono (by omega)) hk58
          have df74 := DF.app (DF.z) (bf_hxl.mono (by omega)) hk58
          have dj75 : Dj kj56 kj58 := Dj.app (Dj.z) j56.le hk58
          have nx76 : Nx 0 H0.size kj58 := Nx.tr (Nx.refl 0 _) hk58 hm0.size
          replace ha := ha.nw hs58
          replace ho := ho.nw hs58
          replace ht := ht.nw hs58
          replace oA := oA.nw hs58
          replace oO := oO.nw hs58
          replace oT := oT.nw hs58
          replace j35 := j35.nw hs58
          replace j39 := j39.nw hs58
          replace j44 := j44.nw hs58
          replace hrl := hrl.nw hs58
          replace hxl := fun x hx_ => (hxl x hx_).nw hs58
          replace j56 := j56.nw hs58
          replace hm0 := hm0.tr hs58
          have hz14 := hs58.size
          have hle_j58 := j58.le
          refine LR.v (Y.move rfl rfl) (Wd.u rfl) rfl rfl ?_
          -- call selvage/selvageref12.Join
          refine LR.call rfl Try.call18 rfl (Wd.u rfl) rfl rfl (rjoin3 _ T w0 _ oT.rd.any (by omega)) (fun v60 H60 r60 => ?_)
          obtain ⟨v60, kj60, rfl, j60, hk60, hs60⟩ := r60
          have df77 := DF.app (DF.z) (bf_ha.mono hm0.size) hk60
          have df78 := DF.app (DF.z) (bf_ho.mono hm0.size) hk60
          have df79 := DF.app (DF.z) (bf_ht.mono hm0.size) hk60
          have dj80 : Dj kA kj60 := Dj.app (Dj.z) oA.le hk60
          have dj81 : Dj kO kj60 := Dj.app (Dj.z) oO.le hk60
          have dj82 : Dj kT kj60 := Dj.app (Dj.z) oT.le hk60
          have dj83 : Dj kj35 kj60 := Dj.app (Dj.z) j35.le hk60
          have dj84 : Dj kj39 kj60 := Dj.app (Dj.z) j39.le hk60
          have dj85 : Dj kj44 kj60 := Dj.app (Dj.z) j44.le hk60
          have df86 := DF.app (DF.z) (bf_hrl.mono (by omega)) hk60
          have df87 := DF.app (DF.z) (bf_hxl.mono (by omega)) hk60
          have dj88 : Dj kj56 kj60 := Dj.app (Dj.z) j56.le hk60
          have dj89 : Dj kj58 kj60 := Dj.app (Dj.z) j58.le hk60
          have nx90 : Nx 0 H0.size kj60 := Nx.tr (Nx.refl 0 _) hk60 hm0.size
          replace ha := ha.nw hs60
          replace ho := ho.nw hs60
          replace ht := ht.nw hs60
          replace oA := oA.nw hs60
          replace oO := oO.nw hs60
          replace oT := oT.nw hs60
          replace j35 := j35.nw hs60
          replace j39 := j39.nw hs60
          replace j44 := j44.nw hs60
          replace hrl := hrl.nw hs60
          replace hxl := fun x hx_ => (hxl x hx_).nw hs60
          replace j56 := j56.nw hs60
          replace j58 := j58.nw hs60
          replace hm0 := hm0.tr hs60
          have hz15 := hs60.size
          have hle_j60 := j60.le
          -- call selvage/merge3.Merge
          refine LR.call rfl Try.call17 rfl (Wd.u rfl) rfl rfl (mergeT _ _ _ A.flatten O.flatten T.flatten (rendL cs) (cleanL cs) w0 _ j56.rd.any j58.rd.any j60.rd.any (by omega) (by omega) (by omega) sA sO sT (by rw [hme]) (by rw [hme])) (fun v61 H61 r61 => ?_)
          obtain ⟨vm, km, rfl, om, hk61, hs61⟩ := r61
          have df91 := DF.app (DF.z) (bf_ha.mono hm0.size) hk61
          have df92 := DF.app (DF.z) (bf_ho.mono hm0.size) hk61
          have df93 := DF.app (DF.z) (bf_ht.mono hm0.size) hk61
          have dj94 : Dj kA km := Dj.app (Dj.z) oA.le hk61
          have dj95 : Dj kO km := Dj.app (Dj.z) oO.le hk61
          have dj96 : Dj kT km := Dj.app (Dj.z) oT.le hk61
          have dj97 : Dj kj35 km := Dj.app (Dj.z) j35.le hk61
          have dj98 : Dj kj39 km := Dj.app (Dj.z) j39.le hk61
          have dj99 : Dj kj44 km := Dj.app (Dj.z) j44.le hk61
          have df100 := DF.app (DF.z) (bf_hrl.mono (by omega)) hk61
          have df101 := DF.app (DF.z) (bf_hxl.mono (by omega)) hk61
          have dj102 : Dj kj56 km := Dj.app (Dj.z) j56.le hk61
          have dj103 : Dj kj58 km := Dj.app (Dj.z) j58.le hk61
          have dj104 : Dj kj60 km := Dj.app (Dj.z) j60.le hk61
          have nx105 : Nx 0 H0.size km := Nx.tr (Nx.refl 0 _) hk61 hm0.size
          replace ha := ha.nw hs61
          replace ho := ho.nw hs61
          replace ht := ht.nw hs61
          replace oA := oA.nw hs61
          replace oO := oO.nw hs61
          replace oT := oT.nw hs61
          replace j35 := j35.nw hs61
          replace j39 := j39.nw hs61
          replace j44 := j44.nw hs61
          replace hrl := hrl.nw hs61
          replace hxl := fun x hx_ => (hxl x hx_).nw hs61
          replace j56 := j56.nw hs61
          replace j58 := j58.nw hs61
          replace j60 := j60.nw hs61
          replace hm0 := hm0.tr hs61
          have hz16 := hs61.size
          have hle_om := om.le
          refine LR.v (Y.move rfl rfl) (Wd.u rfl) rfl rfl ?_
          refine LR.v (Y.extract rfl rfl rfl) (Wd.u rfl) rfl rfl ?_
          refine LR.v (Y.extract rfl rfl rfl) (Wd.u rfl) rfl rfl ?_
          refine LR.v (Y.extract rfl rfl rfl) (Wd.u rfl) rfl rfl ?_
          refine LR.v (Y.assign rfl rfl) (Wd.u rfl) rfl rfl ?_
          refine LR.v (Y.assign rfl rfl) (Wd.u rfl) rfl rfl ?_
          refine LR.v (Y.assign rfl rfl) (Wd.u rfl) rfl rfl ?_
          refine LR.nil ?_
          refine hK14 _ _ ?_
          refine CW.seq (fun K15 hK15 hE15 => ?_)
          refine CW.region ?_
          refine LR.v (Y.move rfl rfl) (Wd.u rfl) rfl rfl ?_
          -- call selvage/merge3.Parse
          refine LR.call rfl Try.call24 rfl (Wd.u rfl) rfl rfl (parseT _ w0 _ om.rd.any (by omega) (parse_rend hok hnm)) (fun v67 H67 r67 => ?_)
          obtain ⟨vp, m, rfl, hlm, hrm, hxm, hs67⟩ := r67
          replace ha := ha.nw hs67
          replace ho := ho.nw hs67
          replace ht := ht.nw hs67
          replace oA := oA.nw hs67
          replace oO := oO.nw hs67
          replace oT := oT.nw hs67
          replace j35 := j35.nw hs67
          replace j39 := j39.nw hs67
          replace j44 := j44.nw hs67
          replace hrl := hrl.nw hs67
          replace hxl := fun x hx_ => (hxl x hx_).nw hs67
          replace j56 := j56.nw hs67
          replace j58 := j58.nw hs67
          replace j60 := j60.nw hs67
          replace om := om.nw hs67
          replace hm0 := hm0.tr hs67
          have hz17 := hs67.size
          replace hrm := hrm.bnd
          have bf_hrm := Rd.bf hrm
          have df106 : DF (fun b => H61.size ≤ b ∧ b < H67.size) kA := DF.above (fun b h => h.1) (by first | exact hle_oA | exact hlt_oA | omega)
          have df107 : DF (fun b => H61.size ≤ b ∧ b < H67.size) kO := DF.above (fun b h => h.1) (by first | exact hle_oO | exact hlt_oO | omega)
          have df108 : DF (fun b => H61.size ≤ b ∧ b < H67.size) kT := DF.above (fun b h => h.1) (by first | exact hle_oT | exact hlt_oT | omega)
          have df109 : DF (fun b => H61.size ≤ b ∧ b < H67.size) kj35 := DF.above (fun b h => h.1) (by first | exact hle_j35 | exact hlt_j35 | omega)
          have df110 : DF (fun b => H61.size ≤ b ∧ b < H67.size) kj39 := DF.above (fun b h => h.1) (by first | exact hle_j39 | exact hlt_j39 | omega)
          have df111 : DF (fun b => H61.size ≤ b ∧ b < H67.size) kj44 := DF.above (fun b h => h.1) (by first | exact hle_j44 | exact hlt_j44 | omega)
          have df112 : DF (fun b => H61.size ≤ b ∧ b < H67.size) kj56 := DF.above (fun b h => h.1) (by first | exact hle_j56 | exact hlt_j56 | omega)
          have df113 : DF (fun b => H61.size ≤ b ∧ b < H67.size) kj58 := DF.above (fun b h => h.1) (by first | exact hle_j58 | exact hlt_j58 | omega)
          have df114 : DF (fun b => H61.size ≤ b ∧ b < H67.size) kj60 := DF.above (fun b h => h.1) (by first | exact hle_j60 | exact hlt_j60 | omega)
          have df115 : DF (fun b => H61.size ≤ b ∧ b < H67.size) km := DF.above (fun b h => h.1) (by first | exact hle_om | exact hlt_om | omega)
          replace hxm := fun x hx_ => (hxm x hx_).bnd
          have bf_hxm : BF (fun b => H61.size ≤ b ∧ b < H67.size) H67.size := fun b h => h.2
          have df116 : DF (fun b => H61.size ≤ b ∧ b < H67.size) kA := DF.above (fun b h => h.1) (by first | exact hle_oA | exact hlt_oA | omega)
          have df117 : DF (fun b => H61.size ≤ b ∧ b < H67.size) kO := DF.above (fun b h => h.1) (by first | exact hle_oO | exact hlt_oO | omega)
          have df118 : DF (fun b => H61.size ≤ b ∧ b < H67.size) kT := DF.above (fun b h => h.1) (by first | exact hle_oT | exact hlt_oT | omega)
          have df119 : DF (fun b => H61.size ≤ b ∧ b < H67.size) kj35 := DF.above (fun b h => h.1) (by first | exact hle_j35 | exact hlt_j35 | omega)
          have df120 : DF (fun b => H61.size ≤ b ∧ b < H67.size) kj39 := DF.above (fun b h => h.1) (by first | exact hle_j39 | exact hlt_j39 | omega)
          have df121 : DF (fun b => H61.size ≤ b ∧ b < H67.size) kj44 := DF.above (fun b h => h.1) (by first | exact hle_j44 | exact hlt_j44 | omega)
          have df122 : DF (fun b => H61.size ≤ b ∧ b < H67.size) kj56 := DF.above (fun b h => h.1) (by first | exact hle_j56 | exact hlt_j56 | omega)
          have df123 : DF (fun b => H61.size ≤ b ∧ b < H67.size) kj58 := DF.above (fun b h => h.1) (by first | exact hle_j58 | exact hlt_j58 | omega)
          have df124 : DF (fun b => H61.size ≤ b ∧ b < H67.size) kj60 := DF.above (fun b h => h.1) (by first | exact hle_j60 | exact hlt_j60 | omega)
          have df125 : DF (fun b => H61.size ≤ b ∧ b < H67.size) km := DF.above (fun b h => h.1) (by first | exact hle_om | exact hlt_om | omega)
          have hmln := congrArg List.length hlm
          rw [List.length_map] at hmln
          have hpl := pcs_len cs []
          have hre := rend_pcs cs [] hok
          rw [List.flatten_nil, List.nil_append] at hre
          refine LR.v (Y.move rfl rfl) (Wd.u rfl) rfl rfl ?_
          refine LR.v (Y.extract rfl rfl rfl) (Wd.u rfl) rfl rfl ?_
          refine LR.v (Y.extract rfl rfl rfl) (Wd.u rfl) rfl rfl ?_
          refine LR.v (Y.assign rfl rfl) (Wd.u rfl) rfl rfl ?_
          refine LR.v (Y.assign rfl rfl) (Wd.u rfl) rfl rfl ?_
          refine LR.nil ?_
          refine hK15 _ _ ?_
          refine CW.seq (fun K16 hK16 hE16 => ?_)
          refine CW.seq (fun K17 hK17 hE17 => ?_)
          refine CW.region ?_
          refine LR.v (Y.move rfl rfl) (Wd.u rfl) rfl rfl ?_
          refine LR.v ((Y.neq rfl rfl rfl).isF (fun h => h rfl)) (Wd.u rfl) rfl rfl ?_
          refine LR.v (Y.move rfl rfl) (Wd.u rfl) rfl rfl ?_
          refine LR.v (Y.move rfl rfl) (Wd.g rfl rfl rfl) rfl rfl ?_
          refine LR.v ((Y.neq rfl rfl rfl).isF (fun h => h rfl)) (Wd.g rfl rfl rfl) rfl rfl ?_
          refine LR.v (Y.pick_f rfl rfl rfl) (Wd.u rfl) rfl rfl ?_
          refine LR.v (Y.move rfl rfl) (Wd.u rfl) rfl rfl ?_
          refine LR.v (Y.move rfl rfl) (Wd.g rfl rfl rfl) rfl rfl ?_
          -- call selvage/merge3.Marks
          refine LR.call rfl Try.call26 rfl (Wd.g rfl rfl rfl) rfl rfl (markF _ w0 _ om.rd.any (by omega) (marks_rend hok hnm)) (fun v78 H78 r78 => ?_)
          obtain ⟨rfl, hs78⟩ := r78
          replace ha := ha.nw hs78
          replace ho := ho.nw hs78
          replace ht := ht.nw hs78
          replace oA := oA.nw hs78
          replace oO := oO.nw hs78
          replace oT := oT.nw hs78
          replace j35 := j35.nw hs78
          replace j39 := j39.nw hs78
          replace j44 := j44.nw hs78
          replace hrl := hrl.nw hs78
          replace hxl := fun x hx_ => (hxl x hx_).nw hs78
          replace j56 := j56.nw hs78
          replace j58 := j58.nw hs78
          replace j60 := j60.nw hs78
          replace om := om.nw hs78
          replace hrm := hrm.nw hs78
          replace hxm := fun x hx_ => (hxm x hx_).nw hs78
          replace hm0 := hm0.tr hs78
          have hz18 := hs78.size
          refine LR.v (Y.move rfl rfl) (Wd.g rfl rfl rfl) rfl rfl ?_
          refine LR.v ((Y.beql rfl Try.underlying4 rfl rfl).isF (fun h => by revert h; cases cleanL cs <;> decide)) (Wd.g rfl rfl rfl) rfl rfl ?_
          refine LR.v (Y.pick_f rfl rfl rfl) (Wd.u rfl) rfl rfl ?_
          refine LR.nil ?_
          refine hK17 _ _ ?_
          refine CW.cond_f rfl ?_
          refine CW.skip ?_
          refine hK16 _ _ ?_
          refine CW.seq (fun K18 hK18 hE18 => ?_)
          refine CW.region ?_
          refine LR.v (Y.assign rfl rfl) (Wd.u rfl) rfl rfl ?_
          refine LR.v (Y.assign rfl rfl) (Wd.u rfl) rfl rfl ?_
          refine LR.nil ?_
          refine hK18 _ _ ?_
          refine CW.seq (fun K19 hK19 hE19 => ?_)
          refine CW.seq (fun K20 hK20 hE20 => ?_)
          refine CW.region ?_
          refine LR.v (Y.assign rfl rfl) (Wd.u rfl) rfl rfl ?_
          refine LR.nil ?_
          refine hK20 _ _ ?_
          refine CW.block (fun K21 hK21 hX21 hE21 => ?_)
          refine CW.loop (fun (s_ : (Nat) × (Value) × (Nat)) => match s_ with | (i, vo, ko) => [(10, vl), (12, vm), (15, vp), (17, vo), (18, .slice none 0 0), (19, .int .i64 i)])
            (fun (s_ : (Nat) × (Value) × (Nat)) (H : Heap) => match s_ with | (i, vo, ko) => (i ≤ l.length) ∧ (Ow ko 42 H fK 4 vo ((l.take i).filter (fun x => decide (x.k = 4)))) ∧ (Nx 0 H78.size ko) ∧ Nw H78 H)
            (fun (s_ : (Nat) × (Value) × (Nat)) => match s_ with | (i, vo, ko) => l.length - i) (0, .slice none 0 0, 0) ⟨rfl, rfl, rfl, rfl, rfl, rfl, trivial⟩ ?_ ?_
          ·
            exact ⟨(by omega), Ow.nil fK_len fK_one, Nx.refl _ _, Mo.refl _ _⟩
          rintro ⟨i, vo, ko⟩ HL1 hI1 K22 hN22 hE22
          obtain ⟨hi, ow, nxl_ow, hlm1⟩ := hI1
          have df126 := DF.app (DF.z) (bf_ha.mono hm0.size) nxl_ow
          have df127 := DF.app (DF.z) (bf_ho.mono hm0.size) nxl_ow
          have df128 := DF.app (DF.z) (bf_ht.mono hm0.size) nxl_ow
          have dj129 : Dj kA ko := Dj.app (Dj.z) oA.le nxl_ow
          have dj130 : Dj kO ko := Dj.app (Dj.z) oO.le nxl_ow
          have dj131 : Dj kT ko := Dj.app (Dj.z) oT.le nxl_ow
          have dj132 : Dj kj35 ko := Dj.app (Dj.z) j35.le nxl_ow
          have dj133 : Dj kj39 ko := Dj.app (Dj.z) j39.le nxl_ow
          have dj134 : Dj kj44 ko := Dj.app (Dj.z) j44.le nxl_ow
          have df135 := DF.app (DF.z) (bf_hrl.mono (by omega)) nxl_ow
          have df136 := DF.app (DF.z) (bf_hxl.mono (by omega)) nxl_ow
          have dj137 : Dj kj56 ko := Dj.app (Dj.z) j56.le nxl_ow
          have dj138 : Dj kj58 ko := Dj.app (Dj.z) j58.le nxl_ow
          have dj139 : Dj kj60 ko := Dj.app (Dj.z) j60.le nxl_ow
          have dj140 : Dj km ko := Dj.app (Dj.z) om.le nxl_ow
          have df141 := DF.app (DF.z) (bf_hrm.mono (by omega)) nxl_ow
          have df142 := DF.app (DF.z) (bf_hxm.mono (by omega)) nxl_ow
          have nx143 : Nx 0 H0.size ko := Nx.tr (Nx.refl 0 _) nxl_ow hm0.size
          replace ha := ha.nw hlm1
          replace ho := ho.nw hlm1
          replace ht := ht.nw hlm1
          replace oA := oA.nw hlm1
          replace oO := oO.nw hlm1
          replace oT := oT.nw hlm1
          replace j35 := j35.nw hlm1
          replace j39 := j39.nw hlm1
          replace j44 := j44.nw hlm1
          replace hrl := hrl.nw hlm1
          replace hxl := fun x hx_ => (hxl x hx_).nw hlm1
          replace j56 := j56.nw hlm1
          replace j58 := j58.nw hlm1
          replace j60 := j60.nw hlm1
          replace om := om.nw hlm1
          replace hrm := hrm.nw hlm1
          replace hxm := fun x hx_ => (hxm x hx_).nw hlm1
          replace hm0 := hm0.tr hlm1
          have hz19 := hlm1.size
          have hle_ow := ow.le
          have nx144 := nxl_ow
          have hfl := filt_len (l := l) (i := i)
          refine CW.seq (fun K23 hK23 hE23 => ?_)
          refine CW.seq (fun K24 hK24 hE24 => ?_)
          refine CW.region ?_
          refine LR.v (Y.move rfl rfl) (Wd.u rfl) rfl rfl ?_
          refine LR.v (Y.move rfl rfl) (Wd.u rfl) rfl rfl ?_
          refine LR.v (Y.len hrl rfl Try.runUnderlying25 rfl) (Wd.u rfl) rfl rfl ?_
          refine LR.v (Y.lss rfl rfl rfl) (Wd.u rfl) rfl rfl ?_
          refine LR.nil ?_
          refine hK24 _ _ ?_
          refine CW.condp rfl (fun c85 => ?_) (fun c85 => ?_)
          ·
            refine CW.skip ?_
            refine hK23 _ _ ?_
            refine CW.seq (fun K25 hK25 hE25 => ?_)
            refine CW.block (fun K26 hK26 hX26 hE26 => ?_)
            refine CW.seq (fun K27 hK27 hE27 => ?_)
            refine CW.region ?_
            refine LR.v (Y.move rfl rfl) (Wd.u rfl) rfl rfl ?_
            refine LR.v (Y.move rfl rfl) (Wd.u rfl) rfl rfl ?_
            refine LR.e (g := fun ad => .pointer (some ad)) (Y.indexAddrF hrl (i) rfl Try.runUnderlying25 Try.sizeOf42 rfl rfl (by first | rfl | omega) (by first | omega | (simp; omega) | (simp; done))) (Wd.u rfl) rfl rfl (fun ad90 pt90 => ?_)
            have bf_pt90 := bf_hrl
            refine LR.v (Y.fieldAddr pt90.pt rfl Try.runUnderlying42 rfl rfl Try.sizeOf3 (by decide) rfl) (Wd.u rfl) rfl rfl ?_
            refine LR.v (Y.cast (v2 := .int .i64 l[i].k) (Y.load1 (pt90.pt.drop 0) rfl Try.isAgg3 rfl) (rfl)) (Wd.u rfl) rfl rfl ?_
            refine LR.v (Y.eql rfl rfl rfl) (Wd.u rfl) rfl rfl ?_
            refine LR.nil ?_
            refine hK27 _ _ ?_
            refine CW.condp rfl (fun c93 => ?_) (fun c93 => ?_)
            ·
              refine CW.region ?_
              refine LR.v (Y.move rfl rfl) (Wd.u rfl) rfl rfl ?_
              refine LR.v (Y.move rfl rfl) (Wd.u rfl) rfl rfl ?_
              refine LR.v (Y.move rfl rfl) (Wd.u rfl) rfl rfl ?_
              refine LR.e (g := fun ad => .pointer (some ad)) (Y.indexAddrF hrl (i) rfl Try.runUnderlying25 Try.sizeOf42 rfl rfl (by first | rfl | omega) (by first | omega | (simp; omega) | (simp; done))) (Wd.u rfl) rfl rfl (fun ad97 pt97 => ?_)
              have bf_pt97 := bf_hrl
              refine LR.v (Y.loadN pt97.pt rfl Try.isAgg42 Try.sizeOf42 (rfl) rfl) (Wd.u rfl) rfl rfl ?_
              refine LR.z (Z.litw _ ([l[i]]) rfl inf25 rfl rfl rfl (by decide) (by decide) fK_len fK_one (rfl)) (Wd.u rfl) rfl rfl (fun v99 H99 r99 => ?_)
              obtain ⟨nw99, hs99, ob99, hH99⟩ := r99
              have hzs99 : H99.size = HL1.size + 1 := by rw [hH99]; simp
              have df145 := (DF.new (bf_ha.mono hm0.size) : DF _ (HL1.size + 1))
              have df146 := (DF.new (bf_ho.mono hm0.size) : DF _ (HL1.size + 1))
              have df147 := (DF.new (bf_ht.mono hm0.size) : DF _ (HL1.size + 1))
              have dj148 : Dj kA (HL1.size + 1) := Dj.new oA.le
              have dj149 : Dj kO (HL1.size + 1) := Dj.new oO.le
              have dj150 : Dj kT (HL1.size + 1) := Dj.new oT.le
              have dj151 : Dj kj35 (HL1.size + 1) := Dj.new j35.le
              have dj152 : Dj kj39 (HL1.size + 1) := Dj.new j39.le
              have dj153 : Dj kj44 (HL1.size + 1) := Dj.new j44.le
              have df154 := (DF.new (bf_hrl.mono (by omega)) : DF _ (HL1.size + 1))
              have df155 := (DF.new (bf_hxl.mono (by omega)) : DF _ (HL1.size + 1))
              have dj156 : Dj kj56 (HL1.size + 1) := Dj.new j56.le
              have dj157 : Dj kj58 (HL1.size + 1) := Dj.new j58.le
              have dj158 : Dj kj60 (HL1.size + 1) := Dj.new j60.le
              have dj159 : Dj km (HL1.size + 1) := Dj.new om.le
              have df160 := (DF.new (bf_hrm.mono (by omega)) : DF _ (HL1.size + 1))
              have df161 := (DF.new (bf_hxm.mono (by omega)) : DF _ (HL1.size + 1))
              have dj162 : Dj ko (HL1.size + 1) := Dj.new ow.le
              have df163 := (DF.new (bf_pt97.mono (by omega)) : DF _ (HL1.size + 1))
              have nx164 : Nx 0 H0.size (HL1.size + 1) := Nx.new hm0.size
              have nx165 : Nx 0 H78.size (HL1.size + 1) := Nx.new hlm1.size
              replace ha := ha.nw hs99
              replace ho := ho.nw hs99
              replace ht := ht.nw hs99
              replace oA := oA.nw hs99
              replace oO := oO.nw hs99
              replace oT := oT.nw hs99
              replace j35 := j35.nw hs99
              replace j39 := j39.nw hs99
              replace j44 := j44.nw hs99
              replace hrl := hrl.nw hs99
              replace hxl := fun x hx_ => (hxl x hx_).nw hs99
              replace j56 := j56.nw hs99
              replace j58 := j58.nw hs99
              replace j60 := j60.nw hs99
              replace om := om.nw hs99
              replace hrm := hrm.nw hs99
              replace hxm := fun x hx_ => (hxm x hx_).nw hs99
              replace ow := ow.nw hs99
              replace pt97 := pt97.nw hs99
              replace hm0 := hm0.tr hs99
              replace hlm1 := hlm1.tr hs99
              have hz20 := hs99.size
              refine LR.z (Z.apnd ow nw99.rd rfl inf25 rfl rfl (by simp only [List.length_singleton]; omega) (by simp only [List.length_singleton]; omega)) (Wd.u rfl) rfl rfl (fun v100 H100 r100 => ?_)
              obtain ⟨k100, ow, hk100, hs100⟩ := r100
              replace hk100 : Nx ko H99.size k100 := hk100
              replace hs100 := hs100.md
              have df166 := DF.app (df126) (bf_ha.mono hm0.size) hk100
              have df167 := DF.app (df127) (bf_ho.mono hm0.size) hk100
              have df168 := DF.app (df128) (bf_ht.mono hm0.size) hk100
              have dj169 : Dj kA k100 := Dj.app (dj129) oA.le hk100
              have dj170 : Dj kO k100 := Dj.app (dj130) oO.le hk100
              have dj171 : Dj kT k100 := Dj.app (dj131) oT.le hk100
              have dj172 : Dj kj35 k100 := Dj.app (dj132) j35.le hk100
              have dj173 : Dj kj39 k100 := Dj.app (dj133) j39.le hk100
              have dj174 : Dj kj44 k100 := Dj.app (dj134) j44.le hk100
              have df175 := DF.app (df135) (bf_hrl.mono (by omega)) hk100
              have df176 := DF.app (df136) (bf_hxl.mono (by omega)) hk100
              have dj177 : Dj kj56 k100 := Dj.app (dj137) j56.le hk100
              have dj178 : Dj kj58 k100 := Dj.app (dj138) j58.le hk100
              have dj179 : Dj kj60 k100 := Dj.app (dj139) j60.le hk100
              have dj180 : Dj km k100 := Dj.app (dj140) om.le hk100
              have df181 := DF.app (df141) (bf_hrm.mono (by omega)) hk100
              have df182 := DF.app (df142) (bf_hxm.mono (by omega)) hk100
              have df183 := DF.app (df135) (bf_pt97.mono (by omega)) hk100
              have dj184 : Dj (HL1.size + 1) k100 := Dj.app (dj162.symm) nw99.le hk100
              have nx185 : Nx 0 H0.size k100 := Nx.tr (nx143) hk100 hm0.size
              have nx186 : Nx 0 H78.size k100 := Nx.tr (nx144) hk100 hlm1.size
              replace ha := ha.upL hs100 (DFL.cons df126 DFL.nil)
              replace ho := ho.upL hs100 (DFL.cons df127 DFL.nil)
              replace ht := ht.upL hs100 (DFL.cons df128 DFL.nil)
              replace oA := oA.upL hs100 (DL.cons dj129 DL.nil)
              replace oO := oO.upL hs100 (DL.cons dj130 DL.nil)
              replace oT := oT.upL hs100 (DL.cons dj131 DL.nil)
              replace j35 := j35.upL hs100 (DL.cons dj132 DL.nil)
              replace j39 := j39.upL hs100 (DL.cons dj133 DL.nil)
              replace j44 := j44.upL hs100 (DL.cons dj134 DL.nil)
              replace hrl := hrl.upL hs100 (DFL.cons df135 DFL.nil)
              replace hxl := fun x hx_ => (hxl x hx_).upL hs100 (DFL.cons df136 DFL.nil)
              replace j56 := j56.upL hs100 (DL.cons dj137 DL.nil)
              replace j58 := j58.upL hs100 (DL.cons dj138 DL.nil)
              replace j60 := j60.upL hs100 (DL.cons dj139 DL.nil)
              replace om := om.upL hs100 (DL.cons dj140 DL.nil)
              replace hrm := hrm.upL hs100 (DFL.cons df141 DFL.nil)
              replace hxm := fun x hx_ => (hxm x hx_).upL hs100 (DFL.cons df142 DFL.nil)
              replace pt97 := pt97.upL hs100 (DFL.cons df135 DFL.nil)
              replace nw99 := nw99.upL hs100 (DL.cons dj162.symm DL.nil)
              replace hm0 := (Mo.trL (ks := []) (hm0.mdn []) hs100 (MIL.cons (MI.app MI.z (nx143) (Nat.le_refl _)) MIL.nil)).nil
              replace hlm1 := (Mo.trL (ks := []) (hlm1.mdn []) hs100 (MIL.cons (MI.app MI.z (nx144) (Nat.le_refl _)) MIL.nil)).nil
              have hz21 := hs100.size
              have hle_ow := ow.le
              refine LR.v (Y.assign rfl rfl) (Wd.u rfl) rfl rfl ?_
              refine LR.nil ?_
              refine hK26 _ _ ?_
              refine hK25 _ _ ?_
              refine CW.region ?_
              refine LR.v (Y.move rfl rfl) (Wd.u rfl) rfl rfl ?_
              refine LR.v (Y.addi rfl rfl rfl (by omega)) (Wd.u rfl) rfl rfl ?_
              refine LR.v (Y.assign rfl rfl) (Wd.u rfl) rfl rfl ?_
              refine LR.nil ?_
              refine QN.sub (hN22 (i + 1, v100, k100) _ ?_ ?_) ⟨rfl, rfl, rfl, rfl, rfl, (iv (by omega)), trivial⟩
              · exact ⟨(by omega), by rw [clash_snoc (by omega), if_pos c93]; exact ow, nx186, hlm1⟩
              · first | omega | (simp only; omega) | (simp; omega)
            ·
              refine CW.skip ?_
              refine hK26 _ _ ?_
              refine hK25 _ _ ?_
              refine CW.region ?_
              refine LR.v (Y.move rfl rfl) (Wd.u rfl) rfl rfl ?_
              refine LR.v (Y.addi rfl rfl rfl (by omega)) (Wd.u rfl) rfl rfl ?_
              refine LR.v (Y.assign rfl rfl) (Wd.u rfl) rfl rfl ?_
              refine LR.nil ?_
              refine QN.sub (hN22 (i + 1, vo, ko) _ ?_ ?_) ⟨rfl, rfl, rfl, rfl, rfl, (iv (by omega)), trivial⟩
              · exact ⟨(by omega), by rw [clash_snoc (by omega), if_neg c93, List.append_nil]; exact ow, nx144, hlm1⟩
              · first | omega | (simp only; omega) | (simp; omega)
          ·
            obtain rfl : i = l.length := by omega
            rw [List.take_length] at ow
            refine CW.exit (hE23 (.exit 0) nofun _ _ (hE22 (.exit 0) nofun _ _ (hX21 _ _ ?_)))
            refine hK19 _ _ ?_
            refine CW.seq (fun K28 hK28 hE28 => ?_)
            refine CW.seq (fun K29 hK29 hE29 => ?_)
            refine CW.region ?_
            refine LR.v (Y.assign rfl rfl) (Wd.u rfl) rfl rfl ?_
            refine LR.nil ?_
            refine hK29 _ _ ?_
            refine CW.block (fun K30 hK30 hX30 hE30 => ?_)
            refine CW.loop (fun (s_ : (Nat) × (Value) × (Nat)) => match s_ with | (j, vq, kq) => [(12, vm), (15, vp), (17, vo), (18, vq), (20, .int .i64 j)])
              (fun (s_ : (Nat) × (Value) × (Nat)) (H : Heap) => match s_ with | (j, vq, kq) => (j ≤ m.length) ∧ (Ow kq 42 H fK 4 vq ((m.take j).filter (fun x => decide (x.k = 4)))) ∧ (Nx 0 HL1.size kq) ∧ Nw HL1 H)
              (fun (s_ : (Nat) × (Value) × (Nat)) => match s_ with | (j, vq, kq) => m.length - j) (0, .slice none 0 0, 0) ⟨rfl, rfl, rfl, rfl, rfl, trivial⟩ ?_ ?_
            ·
              exact ⟨(by omega), Ow.nil fK_len fK_one, Nx.refl _ _, Mo.refl _ _⟩
            rintro ⟨j, vq, kq⟩ HL2 hI2 K31 hN31 hE31
            obtain ⟨hj, oq, nxl_oq, hlm2⟩ := hI2
            have df187 := DF.app (DF.z) (bf_ha.mono hm0.size) nxl_oq
            have df188 := DF.app (DF.z) (bf_ho.mono hm0.size) nxl_oq
            have df189 := DF.app (DF.z) (bf_ht.mono hm0.size) nxl_oq
            have dj190 : Dj kA kq := Dj.app (Dj.z) oA.le nxl_oq
            have dj191 : Dj kO kq := Dj.app (Dj.z) oO.le nxl_oq
            have dj192 : Dj kT kq := Dj.app (Dj.z) oT.le nxl_oq
            have dj193 : Dj kj35 kq := Dj.app (Dj.z) j35.le nxl_oq
            have dj194 : Dj kj39 kq := Dj.app (Dj.z) j39.le nxl_oq
            have dj195 : Dj kj44 kq := Dj.app (Dj.z) j44.le nxl_oq
            have df196 := DF.app (DF.z) (bf_hrl.mono (by omega)) nxl_oq
            have df197 := DF.app (DF.z) (bf_hxl.mono (by omega)) nxl_oq
            have dj198 : Dj kj56 kq := Dj.app (Dj.z) j56.le nxl_oq
            have dj199 : Dj kj58 kq := Dj.app (Dj.z) j58.le nxl_oq
            have dj200 : Dj kj60 kq := Dj.app (Dj.z) j60.le nxl_oq
            have dj201 : Dj km kq := Dj.app (Dj.z) om.le nxl_oq
            have df202 := DF.app (DF.z) (bf_hrm.mono (by omega)) nxl_oq
            have df203 := DF.app (DF.z) (bf_hxm.mono (by omega)) nxl_oq
            have dj204 : Dj ko kq := Dj.app (Dj.z) ow.le nxl_oq
            have nx205 : Nx 0 H0.size kq := Nx.tr (Nx.refl 0 _) nxl_oq hm0.size
            replace ha := ha.nw hlm2
            replace ho := ho.nw hlm2
            replace ht := ht.nw hlm2
            replace oA := oA.nw hlm2
            replace oO := oO.nw hlm2
            replace oT := oT.nw hlm2
            replace j35 := j35.nw hlm2
            replace j39 := j39.nw hlm2
            replace j44 := j44.nw hlm2
            replace hrl := hrl.nw hlm2
            replace hxl := fun x hx_ => (hxl x hx_).nw hlm2
            replace j56 := j56.nw hlm2
            replace j58 := j58.nw hlm2
            replace j60 := j60.nw hlm2
            replace om := om.nw hlm2
            replace hrm := hrm.nw hlm2
            replace hxm := fun x hx_ => (hxm x hx_).nw hlm2
            replace ow := ow.nw hlm2
            replace hm0 := hm0.tr hlm2
            have hz22 := hlm2.size
            have hle_oq := oq.le
            have nx206 := nxl_oq
            have hfl2 := filt_len (l := m) (i := j)
            refine CW.seq (fun K32 hK32 hE32 => ?_)
            refine CW.seq (fun K33 hK33 hE33 => ?_)
            refine CW.region ?_
            refine LR.v (Y.move rfl rfl) (Wd.u rfl) rfl rfl ?_
            refine LR.v (Y.move rfl rfl) (Wd.u rfl) rfl rfl ?_
            refine LR.v (Y.len hrm rfl Try.runUnderlying25 rfl) (Wd.u rfl) rfl rfl ?_
            refine LR.v (Y.lss rfl rfl rfl) (Wd.u rfl) rfl rfl ?_
            refine LR.nil ?_
            refine hK33 _ _ ?_
            refine CW.condp rfl (fun c104 => ?_) (fun c104 => ?_)
            ·
              refine CW.skip ?_
              refine hK32 _ _ ?_
              refine CW.seq (fun K34 hK34 hE34 => ?_)
              refine CW.block (fun K35 hK35 hX35 hE35 => ?_)
              refine CW.seq (fun K36 hK36 hE36 => ?_)
              refine CW.region ?_
              refine LR.v (Y.move rfl rfl) (Wd.u rfl) rfl rfl ?_
              refine LR.v (Y.move rfl rfl) (Wd.u rfl) rfl rfl ?_
              refine LR.e (g := fun ad => .pointer (some ad)) (Y.indexAddrF hrm (j) rfl Try.runUnderlying25 Try.sizeOf42 rfl rfl (by first | rfl | omega) (by first | omega | (simp; omega) | (simp; done))) (Wd.u rfl) rfl rfl (fun ad109 pt109 => ?_)
              have bf_pt109 := bf_hrm
              refine LR.v (Y.fieldAddr pt109.pt rfl Try.runUnderlying42 rfl rfl Try.sizeOf3 (by decide) rfl) (Wd.u rfl) rfl rfl ?_
              refine LR.v (Y.cast (v2 := .int .i64 m[j].k) (Y.load1 (pt109.pt.drop 0) rfl Try.isAgg3 rfl) (rfl)) (Wd.u rfl) rfl rfl ?_
              refine LR.v (Y.eql rfl rfl rfl) (Wd.u rfl) rfl rfl ?_
              refine LR.nil ?_
              refine hK36 _ _ ?_
              refine CW.condp rfl (fun c112 => ?_) (fun c112 => ?_)
              ·
                refine CW.region ?_
                refine LR.v (Y.move rfl rfl) (Wd.u rfl) rfl rfl ?_
                refine LR.v (Y.move rfl rfl) (Wd.u rfl) rfl rfl ?_
                refine LR.v (Y.move rfl rfl) (Wd.u rfl) rfl rfl ?_
                refine LR.e (g := fun ad => .pointer (some ad)) (Y.indexAddrF hrm (j) rfl Try.runUnderlying25 Try.sizeOf42 rfl rfl (by first | rfl | omega) (by first | omega | (simp; omega) | (simp; done))) (Wd.u rfl) rfl rfl (fun ad116 pt116 => ?_)
                have bf_pt116 := bf_hrm
                refine LR.v (Y.loadN pt116.pt rfl Try.isAgg42 Try.sizeOf42 (rfl) rfl) (Wd.u rfl) rfl rfl ?_
                refine LR.z (Z.litw _ ([m[j]]) rfl inf25 rfl rfl rfl (by decide) (by decide) fK_len fK_one (rfl)) (Wd.u rfl) rfl rfl (fun v118 H118 r118 => ?_)
                obtain ⟨nw118, hs118, ob118, hH118⟩ := r118
                have hzs118 : H118.size = HL2.size + 1 := by rw [hH118]; simp
                have df207 := (DF.new (bf_ha.mono hm0.size) : DF _ (HL2.size + 1))
                have df208 := (DF.new (bf_ho.mono hm0.size) : DF _ (HL2.size + 1))
                have df209 := (DF.new (bf_ht.mono hm0.size) : DF _ (HL2.size + 1))
                have dj210 : Dj kA (HL2.size + 1) := Dj.new oA.le
                have dj211 : Dj kO (HL2.size + 1) := Dj.new oO.le
                have dj212 : Dj kT (HL2.size + 1) := Dj.new oT.le
                have dj213 : Dj kj35 (HL2.size + 1) := Dj.new j35.le
                have dj214 : Dj kj39 (HL2.size + 1) := Dj.new j39.le
                have dj215 : Dj kj44 (HL2.size + 1) := Dj.new j44.le
                have df216 := (DF.new (bf_hrl.mono (by omega)) : DF _ (HL2.size + 1))
                have df217 := (DF.new (bf_hxl.mono (by omega)) : DF _ (HL2.size + 1))
                have dj218 : Dj kj56 (HL2.size + 1) := Dj.new j56.le
                have dj219 : Dj kj58 (HL2.size + 1) := Dj.new j58.le
                have dj220 : Dj kj60 (HL2.size + 1) := Dj.new j60.le
                have dj221 : Dj km (HL2.size + 1) := Dj.new om.le
                have df222 := (DF.new (bf_hrm.mono (by omega)) : DF _ (HL2.size + 1))
                have df223 := (DF.new (bf_hxm.mono (by omega)) : DF _ (HL2.size + 1))
                have dj224 : Dj ko (HL2.size + 1) := Dj.new ow.le
                have dj225 : Dj kq (HL2.size + 1) := Dj.new oq.le
                have df226 := (DF.new (bf_pt116.mono (by omega)) : DF _ (HL2.size + 1))
                have nx227 : Nx 0 H0.size (HL2.size + 1) := Nx.new hm0.size
                have nx228 : Nx 0 HL1.size (HL2.size + 1) := Nx.new hlm2.size
                replace ha := ha.nw hs118
                replace ho := ho.nw hs118
                replace ht := ht.nw hs118
                replace oA := oA.nw hs118
                replace oO := oO.nw hs118
                replace oT := oT.nw hs118
                replace j35 := j35.nw hs118
                replace j39 := j39.nw hs118
                replace j44 := j44.nw hs118
                replace hrl := hrl.nw hs118
                replace hxl := fun x hx_ => (hxl x hx_).nw hs118
                replace j56 := j56.nw hs118
                replace j58 := j58.nw hs118
                replace j60 := j60.nw hs118
                replace om := om.nw hs118
                replace hrm := hrm.nw hs118
                replace hxm := fun x hx_ => (hxm x hx_).nw hs118
                replace ow := ow.nw hs118
                replace oq := oq.nw hs118
                replace pt116 := pt116.nw hs118
                replace hm0 := hm0.tr hs118
                replace hlm2 := hlm2.tr hs118
                have hz23 := hs118.size
                refine LR.z (Z.apnd oq nw118.rd rfl inf25 rfl rfl (by simp only [List.length_singleton]; omega) (by simp only [List.length_singleton]; omega)) (Wd.u rfl) rfl rfl (fun v119 H119 r119 => ?_)
                obtain ⟨k119, oq, hk119, hs119⟩ := r119
                replace hk119 : Nx kq H118.size k119 := hk119
                replace hs119 := hs119.md
                have df229 := DF.app (df187) (bf_ha.mono hm0.size) hk119
                have df230 := DF.app (df188) (bf_ho.mono hm0.size) hk119
                have df231 := DF.app (df189) (bf_ht.mono hm0.size) hk119
                have dj232 : Dj kA k119 := Dj.app (dj190) oA.le hk119
                have dj233 : Dj kO k119 := Dj.app (dj191) oO.le hk119
                have dj234 : Dj kT k119 := Dj.app (dj192) oT.le hk119
                have dj235 : Dj kj35 k119 := Dj.app (dj193) j35.le hk119
                have dj236 : Dj kj39 k119 := Dj.app (dj194) j39.le hk119
                have dj237 : Dj kj44 k119 := Dj.app (dj195) j44.le hk119
                have df238 := DF.app (df196) (bf_hrl.mono (by omega)) hk119
                have df239 := DF.app (df197) (bf_hxl.mono (by omega)) hk119
                have dj240 : Dj kj56 k119 := Dj.app (dj198) j56.le hk119
                have dj241 : Dj kj58 k119 := Dj.app (dj199) j58.le hk119
                have dj242 : Dj kj60 k119 := Dj.app (dj200) j60.le hk119
                have dj243 : Dj km k119 := Dj.app (dj201) om.le hk119
                have df244 := DF.app (df202) (bf_hrm.mono (by omega)) hk119
                have df245 := DF.app (df203) (bf_hxm.mono (by omega)) hk119
                have dj246 : Dj ko k119 := Dj.app (dj204) ow.le hk119
                have df247 := DF.app (df202) (bf_pt116.mono (by omega)) hk119
                have dj248 : Dj (HL2.size + 1) k119 := Dj.app (dj225.symm) nw118.le hk119
                have nx249 : Nx 0 H0.size k119 := Nx.tr (nx205) hk119 hm0.size
                have nx250 : Nx 0 HL1.size k119 := Nx.tr (nx206) hk119 hlm2.size
                replace ha := ha.upL hs119 (DFL.cons df187 DFL.nil)
                replace ho := ho.upL hs119 (DFL.cons df188 DFL.nil)
                replace ht := ht.upL hs119 (DFL.cons df189 DFL.nil)
                replace oA := oA.upL hs119 (DL.cons dj190 DL.nil)
                replace oO := oO.upL hs119 (DL.cons dj191 DL.nil)
                replace oT := oT.upL hs119 (DL.cons dj192 DL.nil)
                replace j35 := j35.upL hs119 (DL.cons dj193 DL.nil)
                replace j39 := j39.upL hs119 (DL.cons dj194 DL.nil)
                replace j44 := j44.upL hs119 (DL.cons dj195 DL.nil)
                replace hrl := hrl.upL hs119 (DFL.cons df196 DFL.nil)
                replace hxl := fun x hx_ => (hxl x hx_).upL hs119 (DFL.cons df197 DFL.nil)
                replace j56 := j56.upL hs119 (DL.cons dj198 DL.nil)
                replace j58 := j58.upL hs119 (DL.cons dj199 DL.nil)
                replace j60 := j60.upL hs119 (DL.cons dj200 DL.nil)
                replace om := om.upL hs119 (DL.cons dj201 DL.nil)
                replace hrm := hrm.upL hs119 (DFL.cons df202 DFL.nil)
                replace hxm := fun x hx_ => (hxm x hx_).upL hs119 (DFL.cons df203 DFL.nil)
                replace ow := ow.upL hs119 (DL.cons dj204 DL.nil)
                replace pt116 := pt116.upL hs119 (DFL.cons df202 DFL.nil)
                replace nw118 := nw118.upL hs119 (DL.cons dj225.symm DL.nil)
                replace hm0 := (Mo.trL (ks := []) (hm0.mdn []) hs119 (MIL.cons (MI.app MI.z (nx205) (Nat.le_refl _)) MIL.nil)).nil
                replace hlm2 := (Mo.trL (ks := []) (hlm2.mdn []) hs119 (MIL.cons (MI.app MI.z (nx206) (Nat.le_refl _)) MIL.nil)).nil
                have hz24 := hs119.size
                have hle_oq := oq.le
                refine LR.v (Y.assign rfl rfl) (Wd.u rfl) rfl rfl ?_
                refine LR.nil ?_
                refine hK35 _ _ ?_
                refine hK34 _ _ ?_
                refine CW.region ?_
                refine LR.v (Y.move rfl rfl) (Wd.u rfl) rfl rfl ?_
                refine LR.v (Y.addi rfl rfl rfl (by omega)) (Wd.u rfl) rfl rfl ?_
                refine LR.v (Y.assign rfl rfl) (Wd.u rfl) rfl rfl ?_
                refine LR.nil ?_
                refine QN.sub (hN31 (j + 1, v119, k119) _ ?_ ?_) ⟨rfl, rfl, rfl, rfl, (iv (by omega)), trivial⟩
                · exact ⟨(by omega), by rw [clash_snoc (by omega), if_pos c112]; exact oq, nx250, hlm2⟩
                · first | omega | (simp only; omega) | (simp; omega)
              ·
                refine CW.skip ?_
                refine hK35 _ _ ?_
                refine hK34 _ _ ?_
                refine CW.region ?_
                refine LR.v (Y.move rfl rfl) (Wd.u rfl) rfl rfl ?_
                refine LR.v (Y.addi rfl rfl rfl (by omega)) (Wd.u rfl) rfl rfl ?_
                refine LR.v (Y.assign rfl rfl) (Wd.u rfl) rfl rfl ?_
                refine LR.nil ?_
                refine QN.sub (hN31 (j + 1, vq, kq) _ ?_ ?_) ⟨rfl, rfl, rfl, rfl, (iv (by omega)), trivial⟩
                · exact ⟨(by omega), by rw [clash_snoc (by omega), if_neg c112, List.append_nil]; exact oq, nx206, hlm2⟩
                · first | omega | (simp only; omega) | (simp; omega)
            ·
              obtain rfl : j = m.length := by omega
              rw [List.take_length] at oq
              refine CW.exit (hE32 (.exit 2) nofun _ _ (hE31 (.exit 2) nofun _ _ (hX30 _ _ ?_)))
              refine hK28 _ _ ?_
              refine CW.seq (fun K37 hK37 hE37 => ?_)
              refine CW.region_any (fun Hq => Nw HL2 Hq) [] rfl ?_
              have hqs := Nw.refl HL2
              refine LH.take 0 (by kernel_rfl) rfl (by kernel_rfl) (by kernel_rfl) (by kernel_rfl) (fun Hq hq => Y.move rfl rfl) (Wd.u rfl) rfl rfl hqs ?_
              refine LH.take 1 (by kernel_rfl) rfl (by kernel_rfl) (by kernel_rfl) (by kernel_rfl) (fun Hq hq => Y.move rfl rfl) (Wd.u rfl) rfl rfl hqs ?_
              refine LH.one (i := 2) (by kernel_rfl) ?_
              -- call selvage/selvagelaw14.SameChunks
              refine LO.call rfl rfl Try.call14 rfl (Wd.u rfl) rfl rfl (sameT _ _ _ _ w0 _ ow.rd.any oq.rd.any (filt_x (fun x e => (hxl x e).any)) (filt_x (fun x e => (hxm x e).any)) (by rw [filt_map, filt_map, hll, hlm, filt_pcs])) (fun v122 H122 r122 => ?_)
              obtain ⟨rfl, hs122⟩ := r122
              replace ha := ha.nw hs122
              replace ho := ho.nw hs122
              replace ht := ht.nw hs122
              replace oA := oA.nw hs122
              replace oO := oO.nw hs122
              replace oT := oT.nw hs122
              replace j35 := j35.nw hs122
              replace j39 := j39.nw hs122
              replace j44 := j44.nw hs122
              replace hrl := hrl.nw hs122
              replace hxl := fun x hx_ => (hxl x hx_).nw hs122
              replace j56 := j56.nw hs122
              replace j58 := j58.nw hs122
              replace j60 := j60.nw hs122
              replace om := om.nw hs122
              replace hrm := hrm.nw hs122
              replace hxm := fun x hx_ => (hxm x hx_).nw hs122
              replace ow := ow.nw hs122
              replace oq := oq.nw hs122
              replace hm0 := hm0.tr hs122
              have hz25 := hs122.size
              have hq122 := hqs.tr hs122
              refine ⟨.inr hq122, LH.narrow (SH2 := fun Hq => Nw H122 Hq) (fun Hq hq => hq122.tr hq) ?_⟩
              have hqn122 := Nw.refl H122
              refine LH.take 3 (by kernel_rfl) rfl (by kernel_rfl) (by kernel_rfl) (by kernel_rfl) (fun Hq hq => Y.move rfl rfl) (Wd.u rfl) rfl rfl hqn122 ?_
              refine LH.take 4 (by kernel_rfl) rfl (by kernel_rfl) (by kernel_rfl) (by kernel_rfl) (fun Hq hq => Y.move rfl rfl) (Wd.g rfl rfl rfl) rfl rfl hqn122 ?_
              refine LH.take 7 (by kernel_rfl) rfl (by kernel_rfl) (by kernel_rfl) (by kernel_rfl) (fun Hq hq => Y.move rfl rfl) (Wd.g rfl rfl rfl) rfl rfl hqn122 ?_
              refine LH.take 8 (by kernel_rfl) rfl (by kernel_rfl) (by kernel_rfl) (by kernel_rfl) (fun Hq hq => Y.bstr (om.rd.nw hq) rfl Try.underlying32 Try.underlying9 Try.underlying5 rfl) (Wd.g rfl rfl rfl) rfl rfl hqn122 ?_
              refine LH.one (i := 5) (by kernel_rfl) ?_
              -- call selvage/merge3.Render
              refine LO.call rfl rfl Try.call15 rfl (Wd.g rfl rfl rfl) rfl rfl (render_ct _ m w0 _ hrm.any (fun x e => (hxm x e).any) (bd_of hlm (pc_bd (n := 1048576) (pcs_pc cs []) (by rw [hre]; omega) (by decide))) (by omega)) (fun v125 H125 r125 => ?_)
              obtain ⟨v2125, kr1, rfl, or1, hk125, hs125⟩ := r125
              have df251 := DF.app (DF.z) (bf_ha.mono hm0.size) hk125
              have df252 := DF.app (DF.z) (bf_ho.mono hm0.size) hk125
              have df253 := DF.app (DF.z) (bf_ht.mono hm0.size) hk125
              have dj254 : Dj kA kr1 := Dj.app (Dj.z) oA.le hk125
              have dj255 : Dj kO kr1 := Dj.app (Dj.z) oO.le hk125
              have dj256 : Dj kT kr1 := Dj.app (Dj.z) oT.le hk125
              have dj257 : Dj kj35 kr1 := Dj.app (Dj.z) j35.le hk125
              have dj258 : Dj kj39 kr1 := Dj.app (Dj.z) j39.le hk125
              have dj259 : Dj kj44 kr1 := Dj.app (Dj.z) j44.le hk125
              have df260 := DF.app (DF.z) (bf_hrl.mono (by omega)) hk125
              have df261 := DF.app (DF.z) (bf_hxl.mono (by omega)) hk125
              have dj262 : Dj kj56 kr1 := Dj.app (Dj.z) j56.le hk125
              have dj263 : Dj kj58 kr1 := Dj.app (Dj.z) j58.le hk125
              have dj264 : Dj kj60 kr1 := Dj.app (Dj.z) j60.le hk125
              have dj265 : Dj km kr1 := Dj.app (Dj.z) om.le hk125
              have df266 := DF.app (DF.z) (bf_hrm.mono (by omega)) hk125
              have df267 := DF.app (DF.z) (bf_hxm.mono (by omega)) hk125
              have dj268 : Dj ko kr1 := Dj.app (Dj.z) ow.le hk125
              have dj269 : Dj kq kr1 := Dj.app (Dj.z) oq.le hk125
              have nx270 : Nx 0 H0.size kr1 := Nx.tr (Nx.refl 0 _) hk125 hm0.size
              replace ha := ha.nw hs125
              replace ho := ho.nw hs125
              replace ht := ht.nw hs125
              replace oA := oA.nw hs125
              replace oO := oO.nw hs125
              replace oT := oT.nw hs125
              replace j35 := j35.nw hs125
              replace j39 := j39.nw hs125
              replace j44 := j44.nw hs125
              replace hrl := hrl.nw hs125
              replace hxl := fun x hx_ => (hxl x hx_).nw hs125
              replace j56 := j56.nw hs125
              replace j58 := j58.nw hs125
              replace j60 := j60.nw hs125
              replace om := om.nw hs125
              replace hrm := hrm.nw hs125
              replace hxm := fun x hx_ => (hxm x hx_).nw hs125
              replace ow := ow.nw hs125
              replace oq := oq.nw hs125
              replace hm0 := hm0.tr hs125
              have hz26 := hs125.size
              have hle_or1 := or1.le
              have hq125 := hqn122.tr hs125
              refine ⟨.inr hq125, LH.narrow (SH2 := fun Hq => Nw H125 Hq) (fun Hq hq => hq125.tr hq) ?_⟩
              have hqn125 := Nw.refl H125
              refine LH.take 6 (by kernel_rfl) rfl (by kernel_rfl) (by kernel_rfl) (by kernel_rfl) (fun Hq hq => Y.bstr (or1.rd.nw hq) rfl Try.underlying32 Try.underlying9 Try.underlying5 rfl) (Wd.g rfl rfl rfl) rfl rfl hqn125 ?_
              refine LH.take 9 (by kernel_rfl) rfl (by kernel_rfl) (by kernel_rfl) (by kernel_rfl) (fun Hq hq => (Y.seql rfl rfl rfl).isT (by rw [hlm, hre])) (Wd.g rfl rfl rfl) rfl rfl hqn125 ?_
              refine LH.take 10 (by kernel_rfl) rfl (by kernel_rfl) (by kernel_rfl) (by kernel_rfl) (fun Hq hq => Y.pick_t rfl rfl rfl) (Wd.u rfl) rfl rfl hqn125 ?_
              refine LH.take 11 (by kernel_rfl) rfl (by kernel_rfl) (by kernel_rfl) (by kernel_rfl) (fun Hq hq => Y.assign rfl rfl) (Wd.u rfl) rfl rfl hqn125 ?_
              refine LH.done (by kernel_rfl) ?_
              have hqe := hqn125
              refine hK37 _ _ ?_
              refine CW.ret (hret .ret (.inr rfl) _ _ _ (res1 rfl rfl) ?_)
              exact ⟨rfl, hm0⟩

end Go.Proofs.Ytadgeooceeilpaa.MerQ
