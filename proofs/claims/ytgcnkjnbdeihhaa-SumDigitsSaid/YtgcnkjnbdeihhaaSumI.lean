/-
  The contracts of Hex and of the example, of the rows put together.
-/
import Derived.Test.YtgcnkjnbdeihhaaSumH
import Derived.Test.YtgcnkjnbdeihhaaRead
namespace Go.Proofs.Ytgcnkjnbdeihhaa.SumI
open Go.Proofs.Ytgcnkjnbdeihhaa.E Go.RowKit Go.Proofs.Ytgcnkjnbdeihhaa.SumA Go.Proofs.Ytgcnkjnbdeihhaa.SumB Go.Proofs.Ytgcnkjnbdeihhaa.SumC Go.Proofs.Ytgcnkjnbdeihhaa.SumD Go.Proofs.Ytgcnkjnbdeihhaa.SumE Go.Proofs.Ytgcnkjnbdeihhaa.SumF Go.Proofs.Ytgcnkjnbdeihhaa.SumG Go.Proofs.Ytgcnkjnbdeihhaa.SumH
set_option linter.unusedVariables false
set_option linter.unusedSimpArgs false
set_option linter.unusedSectionVars false
theorem inf22 : Inf Try.prog 22 24 1 24 := ⟨Try.underlying22, _, _, rfl, rfl, rfl, rfl, rfl⟩
theorem inf24 : Inf Try.prog 24 5 1 1 := ⟨Try.underlying24, _, _, rfl, rfl, rfl, rfl, rfl⟩

theorem gd {l : List UInt8} {j : Nat} (h : j < l.length) : l[j] = l.getD j 0 := by simp [h]
theorem shr4_lt (b : UInt8) : (shrw_u8 b 4).toNat < 16 := by rw [shrw_u8_toNat]; have := b.toNat_lt; omega
theorem and15_lt (b : UInt8) : (b &&& 15).toNat < 16 := by have : (b &&& 15) ≤ 15 := UInt8.and_le_right; have := UInt8.le_iff_toNat_le.1 this; simpa using Nat.lt_succ_of_le this
theorem hexL_len (l : List UInt8) : (hexL l).length = 2 * l.length := by
  unfold hexL; induction l with
  | nil => rfl
  | cons b l ih => simp only [List.flatMap_cons, List.length_append, List.length_cons, List.length_nil, ih]; omega
theorem cat_le (l : List (SV × List UInt8)) (k : Nat) : (cat (l.take k)).length ≤ (cat l).length := by
  have : cat l = cat (l.take k) ++ cat (l.drop k) := by unfold cat; rw [← List.flatMap_append, List.take_append_drop]
  rw [this, List.length_append]; omega
theorem hexL_take (l : List UInt8) (i : Nat) (h : i < l.length) : hexL (l.take (i + 1)) = hexL (l.take i) ++ [hd (shrw_u8 (l.getD i 0) 4), hd (l.getD i 0 &&& 15)] := by
  unfold hexL; rw [List.take_succ_eq_append_getElem h, List.flatMap_append, ← gd h]; simp

theorem hex_ct (l : List UInt8) (w0 : World) (H0 : Heap)
    (hl : l.length = 32) :
    Ct Try.prog w0 17 #[idV l] H0 (fun r H2 => r = Str (hexL l) ∧ Mo (fun c => False) H0 H2) := by
  refine Ct.enter (args := [idV l]) Try.func17 rfl rfl rfl ?_
  intro Q0 hret
  have hm0 : Mo (fun c => False) H0 H0 := Mo.refl _ _
  refine CW.seq (fun K1 hK1 hE1 => ?_)
  refine CW.region ?_
  refine LR.z (Z.boxv rfl rfl) (Wd.u rfl) rfl rfl (fun v1 H1 r1 => ?_)
  obtain ⟨rfl, va1, hs1, ob1, hH1⟩ := r1
  have hzs1 : H1.size = H0.size + 1 := by rw [hH1]; simp
  replace hm0 := hm0.trans hs1 (fun b hb0 hb1 => hb1) (fun b hb0 hb1 => hb1.elim)
  have hz1 := hs1.size
  have hlt_va1 := va1.lt
  replace va1 : Var 27 H1 H0.size (l.map V8) := va1
  refine LR.v (Y.assign rfl rfl) (Wd.u rfl) rfl rfl ?_
  refine LR.nil ?_
  refine hK1 _ _ ?_
  refine CW.seq (fun K2 hK2 hE2 => ?_)
  refine CW.region ?_
  refine LR.v (Y.assign rfl rfl) (Wd.u rfl) rfl rfl ?_
  refine LR.nil ?_
  refine hK2 _ _ ?_
  refine CW.seq (fun K3 hK3 hE3 => ?_)
  refine CW.seq (fun K4 hK4 hE4 => ?_)
  refine CW.region ?_
  refine LR.v (Y.loadN va1.pt rfl Try.isAgg27 Try.sizeOf27 (by simp [hl]) rfl) (Wd.u rfl) rfl rfl ?_
  refine LR.v (Y.move rfl rfl) (Wd.u rfl) rfl rfl ?_
  refine LR.nil ?_
  refine hK4 _ _ ?_
  refine CW.block (fun K5 hK5 hX5 hE5 => ?_)
  refine CW.loop (fun (s_ : (Nat) × (Value) × (Nat)) => match s_ with | (i, v3, k3) => [(3, v3), (6, idV l), (7, .int .i64 i)])
    (fun (s_ : (Nat) × (Value) × (Nat)) (H : Heap) => match s_ with | (i, v3, k3) => (i ≤ 32) ∧ (Ow k3 5 H fB 1 v3 (hexL (l.take i))) ∧ (k3 = 0 ∨ H1.size < k3) ∧ Mo (fun c => False) H1 H)
    (fun (s_ : (Nat) × (Value) × (Nat)) => match s_ with | (i, v3, k3) => 32 - i) (0, .slice none 0 0, 0) ⟨rfl, rfl, rfl, trivial⟩ ?_ ?_
  ·
    exact ⟨(by omega), by simpa [hexL] using Ow.nil fB_len fB_one, (by omega), Mo.refl _ _⟩
  rintro ⟨i, v3, k3⟩ HL1 hI1 K6 hN6 hE6
  obtain ⟨hi, ow3, hk, hlm1⟩ := hI1
  replace hm0 := hm0.trans hlm1 (fun b hb0 hb1 => hb1) (fun b hb0 hb1 => hb1.elim)
  replace va1 := va1.nw hlm1
  have hz2 := hlm1.size
  have hle_ow3 := ow3.le
  have hxl : (hexL (l.take i)).length = 2 * i := by rw [hexL_len]; simp; omega
  refine CW.seq (fun K7 hK7 hE7 => ?_)
  refine CW.region ?_
  refine LR.v (Y.lss rfl rfl rfl) (Wd.u rfl) rfl rfl ?_
  refine LR.nil ?_
  refine hK7 _ _ ?_
  refine CW.seq (fun K8 hK8 hE8 => ?_)
  refine CW.condp rfl (fun c8 => ?_) (fun c8 => ?_)
  ·
    refine CW.skip ?_
    refine hK8 _ _ ?_
    refine CW.seq (fun K9 hK9 hE9 => ?_)
    refine CW.block (fun K10 hK10 hX10 hE10 => ?_)
    refine CW.seq (fun K11 hK11 hE11 => ?_)
    refine CW.region ?_
    refine LR.v (Y.arrIndex (i) rfl Try.runUnderlying27 Try.sizeOf5 Try.isAgg5 rfl rfl (by first | rfl | omega) (by omega) (by rw [List.getElem?_toArray]; exact map_get8 l i (by omega))) (Wd.u rfl) rfl rfl ?_
    refine LR.v (Y.assign rfl rfl) (Wd.u rfl) rfl rfl ?_
    refine LR.nil ?_
    refine hK11 _ _ ?_
    refine CW.region_any (fun Hq => Mo (fun c => c + 1 = k3) HL1 Hq) [] rfl ?_
    have hqs : Mo (fun c => c + 1 = k3) HL1 HL1 := Mo.refl _ _
    refine LH.take 0 (by kernel_rfl) rfl (by kernel_rfl) (by kernel_rfl) (by kernel_rfl) (fun Hq hq => Y.move rfl rfl) (Wd.u rfl) rfl rfl hqs ?_
    refine LH.take 1 (by kernel_rfl) rfl (by kernel_rfl) (by kernel_rfl) (by kernel_rfl) (fun Hq hq => Y.move rfl rfl) (Wd.u rfl) rfl rfl hqs ?_
    refine LH.take 2 (by kernel_rfl) rfl (by kernel_rfl) (by kernel_rfl) (by kernel_rfl) (fun Hq hq => Y.shr_u8 (4) rfl rfl rfl (by first | rfl | omega) (by omega)) (Wd.u rfl) rfl rfl hqs ?_
    refine LH.take 3 (by kernel_rfl) rfl (by kernel_rfl) (by kernel_rfl) (by kernel_rfl) (fun Hq hq => Y.cast (v2 := .int .u8 (hd (shrw_u8 (l.getD i 0) 4)).toNat) (Y.sindex ((shrw_u8 (l.getD i 0) 4).toNat) rfl Try.runUnderlying9 rfl rfl rfl (by have := shr4_lt (l.getD i 0); simpa using this)) (by rw [gd]; rfl)) (Wd.u rfl) rfl rfl hqs ?_
    refine LH.take 4 (by kernel_rfl) rfl (by kernel_rfl) (by kernel_rfl) (by kernel_rfl) (fun Hq hq => Y.move rfl rfl) (Wd.u rfl) rfl rfl hqs ?_
    refine LH.take 5 (by kernel_rfl) rfl (by kernel_rfl) (by kernel_rfl) (by kernel_rfl) (fun Hq hq => Y.and_u8 (b := (UInt8.ofNat 15)) rfl rfl rfl) (Wd.u rfl) rfl rfl hqs ?_
    refine LH.take 6 (by kernel_rfl) rfl (by kernel_rfl) (by kernel_rfl) (by kernel_rfl) (fun Hq hq => Y.cast (v2 := .int .u8 (hd (l.getD i 0 &&& 15)).toNat) (Y.sindex ((l.getD i 0 &&& 15).toNat) rfl Try.runUnderlying9 rfl rfl rfl (by have := and15_lt (l.getD i 0); simpa using this)) (by rw [gd]; rfl)) (Wd.u rfl) rfl rfl hqs ?_
    refine LH.one (i := 7) (by kernel_rfl) ?_
    refine LO.z rfl (Z.litw _ ([hd (shrw_u8 (l.getD i 0) 4), hd (l.getD i 0 &&& 15)]) rfl inf24 rfl rfl rfl (by decide) (by decide) fB_len fB_one (rfl)) (Wd.u rfl) rfl rfl (fun v17 H17 r17 => ?_)
    obtain ⟨ow17, hs17, ob17, hH17⟩ := r17
    have hzs17 : H17.size = HL1.size + 1 := by rw [hH17]; simp
    replace hm0 := hm0.trans hs17 (fun b hb0 hb1 => hb1) (fun b hb0 hb1 => hb1.elim)
    replace va1 := va1.nw hs17
    replace ow3 := ow3.nw hs17
    try replace hlm1 := hlm1.trans hs17 (fun b hb0 hb1 => hb1) (fun b hb0 hb1 => hb1.elim)
    have hz3 := hs17.size
    have hle_ow17 := ow17.le
    have hq17 := hqs.trans hs17 (fun b hb0 hb1 => hb1) (fun b hb0 hb1 => by first | exact hb1.elim | omega)
    refine ⟨.inr hq17, LH.narrow (SH2 := fun Hq => Mo (fun c => c + 1 = k3) H17 Hq) (fun Hq hq => hq17.trans hq (fun b hb0 hb1 => hb1) (fun b hb0 hb1 => hb1)) ?_⟩
    have hqn17 : Mo (fun c => c + 1 = k3) H17 H17 := Mo.refl _ _
    refine LH.one (i := 8) (by kernel_rfl) ?_
    refine LO.z rfl (Z.apnd ow3 ow17.rd rfl inf24 rfl rfl (by first | omega | (simp; omega)) (by first | omega | (simp; omega))) (Wd.u rfl) rfl rfl (fun v18 H18 r18 => ?_)
    obtain ⟨k18, ow18, hk18, hs18⟩ := r18
    replace hm0 := hm0.trans hs18 (fun b hb0 hb1 => hb1) (fun b hb0 hb1 => by omega)
    replace va1 := va1.up hs18 (by omega)
    try replace hlm1 := hlm1.trans hs18 (fun b hb0 hb1 => hb1) (fun b hb0 hb1 => by omega)
    replace ow17 := ow17.up hs18 (fun b hb0 hb1 hb2 => by omega)
    have hz4 := hs18.size
    have hle_ow18 := ow18.le
    have hq18 := hqn17.trans hs18 (fun b hb0 hb1 => hb1) (fun b hb0 hb1 => by first | exact hb1.elim | omega)
    refine ⟨.inr hq18, LH.narrow (SH2 := fun Hq => Mo (fun c => c + 1 = k3) H18 Hq) (fun Hq hq => hq18.trans hq (fun b hb0 hb1 => hb1) (fun b hb0 hb1 => hb1)) ?_⟩
    have hqn18 : Mo (fun c => c + 1 = k3) H18 H18 := Mo.refl _ _
    refine LH.take 9 (by kernel_rfl) rfl (by kernel_rfl) (by kernel_rfl) (by kernel_rfl) (fun Hq hq => Y.assign rfl rfl) (Wd.u rfl) rfl rfl hqn18 ?_
    refine LH.done (by kernel_rfl) ?_
    have hqe := hqn18
    refine hK10 _ _ ?_
    refine hK9 _ _ ?_
    refine CW.region ?_
    refine LR.v (Y.addi rfl rfl rfl (by omega)) (Wd.u rfl) rfl rfl ?_
    refine LR.v (Y.move rfl rfl) (Wd.u rfl) rfl rfl ?_
    refine LR.nil ?_
    refine QN.sub (hN6 (i + 1, v18, k18) _ ?_ ?_) ⟨rfl, rfl, (iv (by omega)), trivial⟩
    · exact ⟨(by omega), by rw [hexL_take l i (by omega)]; exact ow18, (by omega), hlm1⟩
    · first | omega | (simp only; omega) | (simp; omega)
  ·
    obtain rfl : i = 32 := by omega
    rw [List.take_of_length_le (by omega)] at ow3
    refine CW.exit (hE8 (.exit 0) nofun _ _ (hE6 (.exit 0) nofun _ _ (hX5 _ _ ?_)))
    refine hK3 _ _ ?_
    refine CW.seq (fun K12 hK12 hE12 => ?_)
    refine CW.region ?_
    refine LR.v (Y.move rfl rfl) (Wd.u rfl) rfl rfl ?_
    refine LR.v (Y.bstr ow3.rd rfl Try.underlying24 Try.underlying9 Try.underlying5 rfl) (Wd.u rfl) rfl rfl ?_
    refine LR.v (Y.assign rfl rfl) (Wd.u rfl) rfl rfl ?_
    refine LR.nil ?_
    refine hK12 _ _ ?_
    refine CW.ret (hret .ret (.inr rfl) _ _ _ (res1 rfl rfl) ?_)
    exact ⟨rfl, hm0⟩

theorem all_ct (vl : Value) (l : List (SV × List UInt8)) (w0 : World) (H0 : Heap)
    (hl : RdT H0 fP 1 vl l) (hx : ∀ x ∈ l, RdT H0 fB 1 x.1.v x.2) (hml : (cat l).length ≤ 1048576) :
    Ct Try.prog w0 8 #[vl] H0 (fun r H2 => ∃ v2 : Value, ∃ k2 : Nat, r = v2 ∧ (Ow k2 5 H2 fB 1 v2 (cat l)) ∧ (k2 = 0 ∨ H0.size < k2) ∧ Mo (fun c => False) H0 H2) := by
  refine Ct.enter (args := [vl]) Try.func8 rfl rfl rfl ?_
  intro Q0 hret
  replace hl := hl.lt
  replace hx := fun x hx0 => (hx x hx0).lt
  have hll := hl.len
  have hm0 : Mo (fun c => False) H0 H0 := Mo.refl _ _
  refine CW.seq (fun K1 hK1 hE1 => ?_)
  refine CW.region ?_
  refine LR.v (Y.assign rfl rfl) (Wd.u rfl) rfl rfl ?_
  refine LR.nil ?_
  refine hK1 _ _ ?_
  refine CW.seq (fun K2 hK2 hE2 => ?_)
  refine CW.region ?_
  refine LR.v (Y.assign rfl rfl) (Wd.u rfl) rfl rfl ?_
  refine LR.nil ?_
  refine hK2 _ _ ?_
  refine CW.seq (fun K3 hK3 hE3 => ?_)
  refine CW.seq (fun K4 hK4 hE4 => ?_)
  refine CW.region ?_
  refine LR.v (Y.assign rfl rfl) (Wd.u rfl) rfl rfl ?_
  refine LR.nil ?_
  refine hK4 _ _ ?_
  refine CW.block (fun K5 hK5 hX5 hE5 => ?_)
  refine CW.loop (fun (s_ : (Nat) × (Value) × (Nat)) => match s_ with | (i, v3, k3) => [(0, vl), (3, v3), (4, .int .i64 i)])
    (fun (s_ : (Nat) × (Value) × (Nat)) (H : Heap) => match s_ with | (i, v3, k3) => (i ≤ l.length) ∧ (Ow k3 5 H fB 1 v3 (cat (l.take i))) ∧ (k3 = 0 ∨ H0.size < k3) ∧ Mo (fun c => False) H0 H)
    (fun (s_ : (Nat) × (Value) × (Nat)) => match s_ with | (i, v3, k3) => l.length - i) (0, .slice none 0 0, 0) ⟨rfl, rfl, rfl, trivial⟩ ?_ ?_
  ·
    exact ⟨(by omega), by simpa [cat] using Ow.nil fB_len fB_one, (by omega), Mo.refl _ _⟩
  rintro ⟨i, v3, k3⟩ HL1 hI1 K6 hN6 hE6
  obtain ⟨hi, ow3, hk, hlm1⟩ := hI1
  replace hl := hl.nw hlm1
  replace hx := fun x hx0 => (hx x hx0).up hlm1 (fun b hb0 hb1 hb2 => hb2)
  replace hm0 := hm0.trans hlm1 (fun b hb0 hb1 => hb1) (fun b hb0 hb1 => hb1.elim)
  have hz1 := hlm1.size
  have hle_ow3 := ow3.le
  refine CW.seq (fun K7 hK7 hE7 => ?_)
  refine CW.seq (fun K8 hK8 hE8 => ?_)
  refine CW.region ?_
  refine LR.v (Y.move rfl rfl) (Wd.u rfl) rfl rfl ?_
  refine LR.v (Y.move rfl rfl) (Wd.u rfl) rfl rfl ?_
  refine LR.v (Y.len hl rfl Try.runUnderlying22 rfl) (Wd.u rfl) rfl rfl ?_
  refine LR.v (Y.lss rfl rfl rfl) (Wd.u rfl) rfl rfl ?_
  refine LR.nil ?_
  refine hK8 _ _ ?_
  refine CW.condp rfl (fun c8 => ?_) (fun c8 => ?_)
  ·
    refine CW.skip ?_
    refine hK7 _ _ ?_
    refine CW.seq (fun K9 hK9 hE9 => ?_)
    refine CW.block (fun K10 hK10 hX10 hE10 => ?_)
    refine CW.region ?_
    refine LR.v (Y.move rfl rfl) (Wd.u rfl) rfl rfl ?_
    refine LR.v (Y.move rfl rfl) (Wd.u rfl) rfl rfl ?_
    refine LR.v (Y.move rfl rfl) (Wd.u rfl) rfl rfl ?_
    refine LR.e (g := fun ad => .pointer (some ad)) (Y.indexAddr hl (i) rfl Try.runUnderlying22 Try.sizeOf24 rfl rfl (by first | rfl | omega) (by first | omega | (simp; omega) | (simp; done))) (Wd.u rfl) rfl rfl (fun ad14 pt14 => ?_)
    refine LR.v (Y.load1 pt14 rfl Try.isAgg24 rfl) (Wd.u rfl) rfl rfl ?_
    have hr := hx l[i] (List.getElem_mem _)
    have hcl := cat_le l (i + 1)
    rw [cat_take l i (by omega), List.length_append] at hcl
    refine LR.z (Z.apnd ow3 hr rfl inf24 rfl rfl (by first | omega | (simp; omega)) (by first | omega | (simp; omega))) (Wd.u rfl) rfl rfl (fun v16 H16 r16 => ?_)
    obtain ⟨k16, ow16, hk16, hs16⟩ := r16
    replace hl := hl.up hs16 (fun b hb0 hb1 hb2 => by omega)
    replace hx := fun x hx0 => (hx x hx0).up hs16 (fun b hb0 hb1 hb2 => by omega)
    replace hm0 := hm0.trans hs16 (fun b hb0 hb1 => hb1) (fun b hb0 hb1 => by omega)
    try replace hlm1 := hlm1.trans hs16 (fun b hb0 hb1 => hb1) (fun b hb0 hb1 => by omega)
    have hz2 := hs16.size
    have hle_ow16 := ow16.le
    refine LR.v (Y.assign rfl rfl) (Wd.u rfl) rfl rfl ?_
    refine LR.nil ?_
    refine hK10 _ _ ?_
    refine hK9 _ _ ?_
    refine CW.region ?_
    refine LR.v (Y.move rfl rfl) (Wd.u rfl) rfl rfl ?_
    refine LR.v (Y.addi rfl rfl rfl (by omega)) (Wd.u rfl) rfl rfl ?_
    refine LR.v (Y.assign rfl rfl) (Wd.u rfl) rfl rfl ?_
    refine LR.nil ?_
    refine QN.sub (hN6 (i + 1, v16, k16) _ ?_ ?_) ⟨rfl, rfl, (iv (by omega)), trivial⟩
    · exact ⟨(by omega), by rw [cat_take l i (by omega)]; exact ow16, (by omega), hlm1⟩
    · first | omega | (simp only; omega) | (simp; omega)
  ·
    obtain rfl : i = l.length := by omega
    rw [List.take_length] at ow3
    refine CW.exit (hE7 (.exit 0) nofun _ _ (hE6 (.exit 0) nofun _ _ (hX5 _ _ ?_)))
    refine hK3 _ _ ?_
    refine CW.seq (fun K11 hK11 hE11 => ?_)
    refine CW.region ?_
    refine LR.v (Y.move rfl rfl) (Wd.u rfl) rfl rfl ?_
    refine LR.v (Y.assign rfl rfl) (Wd.u rfl) rfl rfl ?_
    refine LR.nil ?_
    refine hK11 _ _ ?_
    refine CW.ret (hret .ret (.inr rfl) _ _ _ (res1 rfl rfl) ?_)
    exact ⟨v3, k3, rfl, ow3, (by omega), hm0⟩

theorem known_ct  (w0 : World) (H0 : Heap)
     :
    Ct Try.prog w0 7 #[] H0 (fun r H2 => r = .bool true ∧ Mo (fun c => False) H0 H2) := by
  refine Ct.enter (args := []) Try.func7 rfl rfl rfl ?_
  intro Q0 hret
  have hm0 : Mo (fun c => False) H0 H0 := Mo.refl _ _
  refine CW.seq (fun K1 hK1 hE1 => ?_)
  refine CW.region ?_
  refine LR.v (Y.assign rfl rfl) (Wd.u rfl) rfl rfl ?_
  refine LR.nil ?_
  refine hK1 _ _ ?_
  refine CW.seq (fun K2 hK2 hE2 => ?_)
  refine CW.region ?_
  refine LR.z (Z.litw _ (ABC) rfl inf24 rfl rfl rfl (by decide) (by decide) fB_len fB_one (rfl)) (Wd.u rfl) rfl rfl (fun v1 H1 r1 => ?_)
  obtain ⟨ow1, hs1, ob1, hH1⟩ := r1
  have hzs1 : H1.size = H0.size + 1 := by rw [hH1]; simp
  replace hm0 := hm0.trans hs1 (fun b hb0 hb1 => hb1) (fun b hb0 hb1 => hb1.elim)
  have hz1 := hs1.size
  have hle_ow1 := ow1.le
  refine LR.z (Z.bconst ow1 (by decide) rfl Try.underlying24 Try.underlying5 rfl) (Wd.u rfl) rfl rfl (fun v2 H2 r2 => ?_)
  obtain ⟨rfl, ow1, hs2⟩ := r2
  replace hm0 := hm0.trans hs2 (fun b hb0 hb1 => hb1) (fun b hb0 hb1 => by omega)
  have hz2 := hs2.size
  refine LR.z (Z.litw _ ([((toSV v2, ABC) : SV × List UInt8)]) rfl inf22 rfl rfl rfl (by decide) (by decide) fP_len fP_one (by simp only [List.map_cons, List.map_nil, fP]; rw [ow1.sv, ow1.rd.cells1])) (Wd.u rfl) rfl rfl (fun v3 H3 r3 => ?_)
  obtain ⟨ow3, hs3, ob3, hH3⟩ := r3
  have hzs3 : H3.size = H2.size + 1 := by rw [hH3]; simp
  replace hm0 := hm0.trans hs3 (fun b hb0 hb1 => hb1) (fun b hb0 hb1 => hb1.elim)
  replace ow1 := ow1.nw hs3
  have hz3 := hs3.size
  have hle_ow3 := ow3.le
  -- call selvage/sum.Of
  refine LR.call rfl Try.call9 rfl (Wd.u rfl) rfl rfl (pof_ct _ [((toSV v2, ABC) : SV × List UInt8)] w0 _ ow3.rd.any (by intro x hx; simp only [List.mem_singleton] at hx; subst hx; simp only; rw [ow1.sv]; exact ow1.rd.any) (by simp [cat, ABC])) (fun v4 H4 r4 => ?_)
  obtain ⟨rfl, hs4⟩ := r4
  replace hm0 := hm0.trans hs4 (fun b hb0 hb1 => hb1) (fun b hb0 hb1 => hb1.elim)
  replace ow1 := ow1.nw hs4
  replace ow3 := ow3.nw hs4
  have hz4 := hs4.size
  -- call selvage/sum.Hex
  refine LR.call rfl Try.call17 rfl (Wd.u rfl) rfl rfl (hex_ct (sumOf (cat [((toSV v2, ABC) : SV × List UInt8)])) w0 _ (sumOf_len _)) (fun v5 H5 r5 => ?_)
  obtain ⟨rfl, hs5⟩ := r5
  replace hm0 := hm0.trans hs5 (fun b hb0 hb1 => hb1) (fun b hb0 hb1 => hb1.elim)
  replace ow1 := ow1.nw hs5
  replace ow3 := ow3.nw hs5
  have hz5 := hs5.size
  rw [show cat [((toSV v2, ABC) : SV × List UInt8)] = ABC by simp [cat], abc_sum]
  refine LR.v ((Y.seql rfl rfl rfl).isT (rfl)) (Wd.u rfl) rfl rfl ?_
  refine LR.v (Y.assign rfl rfl) (Wd.u rfl) rfl rfl ?_
  refine LR.nil ?_
  refine hK2 _ _ ?_
  refine CW.ret (hret .ret (.inr rfl) _ _ _ (res1 rfl rfl) ?_)
  exact ⟨rfl, hm0⟩

theorem within_ct (a b : Int) (w0 : World) (H0 : Heap)
    (hb : 1 ≤ b ∧ b ≤ 1000000) (ha : -9223372036854775808 ≤ a ∧ a ≤ 9223372036854775807) :
    Ct Try.prog w0 14 #[.int .i64 a, .int .i64 b] H0 (fun r H2 => ∃ k : Nat, r = .int .i64 k ∧ ((k : Int) < b) ∧ Mo (fun c => False) H0 H2) := by
  refine Ct.enter (args := [.int .i64 a, .int .i64 b]) Try.func14 rfl rfl rfl ?_
  intro Q0 hret
  have hm0 : Mo (fun c => False) H0 H0 := Mo.refl _ _
  refine CW.seq (fun K1 hK1 hE1 => ?_)
  refine CW.region ?_
  refine LR.v (Y.assign rfl rfl) (Wd.u rfl) rfl rfl ?_
  refine LR.nil ?_
  refine hK1 _ _ ?_
  refine CW.seq (fun K2 hK2 hE2 => ?_)
  refine CW.region ?_
  refine LR.v (Y.move rfl rfl) (Wd.u rfl) rfl rfl ?_
  refine LR.v (Y.move rfl rfl) (Wd.u rfl) rfl rfl ?_
  refine LR.v (Y.rem rfl rfl rfl (by omega)) (Wd.u rfl) rfl rfl ?_
  have ht1 := Int.tmod_lt_of_pos a (show 0 < b by omega)
  have ht2 := Int.lt_tmod_of_pos a (show 0 < b by omega)
  refine LR.v (Y.assign rfl rfl) (Wd.u rfl) rfl rfl ?_
  refine LR.nil ?_
  refine hK2 _ _ ?_
  refine CW.seq (fun K3 hK3 hE3 => ?_)
  refine CW.seq (fun K4 hK4 hE4 => ?_)
  refine CW.region ?_
  refine LR.v (Y.move rfl rfl) (Wd.u rfl) rfl rfl ?_
  refine LR.v (Y.lss rfl rfl rfl) (Wd.u rfl) rfl rfl ?_
  refine LR.nil ?_
  refine hK4 _ _ ?_
  refine CW.condp rfl (fun c10 => ?_) (fun c10 => ?_)
  ·
    refine CW.region ?_
    refine LR.v (Y.move rfl rfl) (Wd.u rfl) rfl rfl ?_
    refine LR.v (Y.move rfl rfl) (Wd.u rfl) rfl rfl ?_
    refine LR.v (Y.addi rfl rfl rfl (by omega)) (Wd.u rfl) rfl rfl ?_
    refine LR.v (Y.assign rfl rfl) (Wd.u rfl) rfl rfl ?_
    refine LR.nil ?_
    refine hK3 _ _ ?_
    refine CW.seq (fun K5 hK5 hE5 => ?_)
    refine CW.region ?_
    refine LR.v (Y.move rfl rfl) (Wd.u rfl) rfl rfl ?_
    refine LR.v (Y.assign rfl rfl) (Wd.u rfl) rfl rfl ?_
    refine LR.nil ?_
    refine hK5 _ _ ?_
    refine CW.ret (hret .ret (.inr rfl) _ _ _ (res1 rfl rfl) ?_)
    exact ⟨(a.tmod b + b).toNat, ivv (by omega), (by omega), hm0⟩
  ·
    refine CW.skip ?_
    refine hK3 _ _ ?_
    refine CW.seq (fun K6 hK6 hE6 => ?_)
    refine CW.region ?_
    refine LR.v (Y.move rfl rfl) (Wd.u rfl) rfl rfl ?_
    refine LR.v (Y.assign rfl rfl) (Wd.u rfl) rfl rfl ?_
    refine LR.nil ?_
    refine hK6 _ _ ?_
    refine CW.ret (hret .ret (.inr rfl) _ _ _ (res1 rfl rfl) ?_)
    exact ⟨(a.tmod b).toNat, ivv (by omega), (by omega), hm0⟩

end Go.Proofs.Ytgcnkjnbdeihhaa.SumI
