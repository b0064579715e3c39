/-
  The contracts of the document that takes bytes to lines, and of LinesSplits.
-/
import Derived.Test.YtkofoccjnoenlaaLinL
namespace Go.Proofs.Ytkofoccjnoenlaa.LinN
open Go.Proofs.Ytkofoccjnoenlaa.E Go.RowKit Go.Proofs.Ytkofoccjnoenlaa.LinM Go.Proofs.Ytkofoccjnoenlaa.LinA Go.Proofs.Ytkofoccjnoenlaa.LinB Go.Proofs.Ytkofoccjnoenlaa.LinC Go.Proofs.Ytkofoccjnoenlaa.LinD Go.Proofs.Ytkofoccjnoenlaa.LinE Go.Proofs.Ytkofoccjnoenlaa.LinL
set_option linter.unusedVariables false
set_option linter.unusedSimpArgs false
set_option linter.unusedSectionVars false
theorem inf22 : Inf Try.prog 22 9 1 16 := ⟨Try.underlying22, _, _, rfl, rfl, rfl, rfl, rfl⟩
theorem inf41 : Inf Try.prog 41 5 1 1 := ⟨Try.underlying41, _, _, rfl, rfl, rfl, rfl, rfl⟩
theorem rsplit_ct (v : Value) (b : List UInt8) (w0 : World) (H0 : Heap)
    (hv : RdT H0 fB 1 v b) (hl : b.length ≤ 1048576) :
    Ct Try.prog w0 20 #[v] H0 (fun r H2 => Own (fun b => H0.size ≤ b) 9 H2 fS 1 r (splitL [] b) ∧ Nw H0 H2) := by
  refine Ct.enter (args := [v]) Try.func20 rfl rfl rfl ?_
  intro Q0 hret
  replace hv := hv.lt
  refine CW.seq (fun K1 hK1 hE1 => ?_)
  refine CW.region ?_
  refine LR.v (Y.assign rfl rfl) (Wd.u rfl) rfl rfl ?_
  refine LR.nil ?_
  refine hK1 _ _ ?_
  refine CW.seq (fun K2 hK2 hE2 => ?_)
  refine CW.region ?_
  refine LR.v (Y.assign rfl rfl) (Wd.u rfl) rfl rfl ?_
  refine LR.nil ?_
  refine hK2 _ _ ?_
  refine CW.seq (fun K3 hK3 hE3 => ?_)
  refine CW.region ?_
  refine LR.v (Y.assign rfl rfl) (Wd.u rfl) rfl rfl ?_
  refine LR.nil ?_
  refine hK3 _ _ ?_
  refine CW.seq (fun K4 hK4 hE4 => ?_)
  refine CW.seq (fun K5 hK5 hE5 => ?_)
  refine CW.region ?_
  refine LR.v (Y.assign rfl rfl) (Wd.u rfl) rfl rfl ?_
  refine LR.nil ?_
  refine hK5 _ _ ?_
  refine CW.block (fun K6 hK6 hX6 hE6 => ?_)
  refine CW.loop (fun (s : (Nat) × (Nat) × (Value) × (List (List UInt8))) => match s with | (i, f, vo, out) => [(0, v), (3, vo), (4, .int .i64 f), (5, .int .i64 i)])
    (fun (s : (Nat) × (Nat) × (Value) × (List (List UInt8))) (H : Heap) => match s with | (i, f, vo, out) => Nw H0 H ∧ Own (fun b => H0.size ≤ b) 9 H fS 1 vo out ∧ f ≤ i ∧ i ≤ b.length ∧ out.length ≤ i ∧ out ++ splitL ((b.take i).drop f) (b.drop i) = splitL [] b)
    (fun (s : (Nat) × (Nat) × (Value) × (List (List UInt8))) => match s with | (i, f, vo, out) => b.length - i) (0, 0, .slice none 0 0, []) ⟨rfl, rfl, rfl, rfl, trivial⟩ ?_ ?_
  ·
    exact ⟨Nw.refl _, Own.nil fS_len fS_one, by omega, by omega, by simp, by simp⟩
  rintro ⟨i, f, vo, out⟩ H1 hI1 K7 hN7 hE7
  obtain ⟨hs, ho, hf, hi, hol, hsp⟩ := hI1
  have hzz := hs.size
  have hv2 := hv.nw hs
  refine CW.seq (fun K8 hK8 hE8 => ?_)
  refine CW.seq (fun K9 hK9 hE9 => ?_)
  refine CW.region ?_
  refine LR.v (Y.move rfl rfl) (Wd.u rfl) rfl rfl ?_
  refine LR.v (Y.move rfl rfl) (Wd.u rfl) rfl rfl ?_
  refine LR.v (Y.len hv2 rfl Try.runUnderlying41 rfl) (Wd.u rfl) rfl rfl ?_
  refine LR.v (Y.lss rfl rfl rfl) (Wd.u rfl) rfl rfl ?_
  refine LR.nil ?_
  refine hK9 _ _ ?_
  refine CW.condp rfl (fun c9 => ?_) (fun c9 => ?_)
  ·
    rw [List.drop_eq_getElem_cons (show i < b.length by omega), splitL] at hsp
    refine CW.skip ?_
    refine hK8 _ _ ?_
    refine CW.seq (fun K10 hK10 hE10 => ?_)
    refine CW.block (fun K11 hK11 hX11 hE11 => ?_)
    refine CW.seq (fun K12 hK12 hE12 => ?_)
    refine CW.region ?_
    refine LR.v (Y.move rfl rfl) (Wd.u rfl) rfl rfl ?_
    refine LR.v (Y.move rfl rfl) (Wd.u rfl) rfl rfl ?_
    refine LR.e (g := fun ad => .pointer (some ad)) (Y.indexAddr hv2 (i) rfl Try.runUnderlying41 Try.sizeOf5 rfl rfl (by first | rfl | omega) (by omega)) (Wd.u rfl) rfl rfl (fun ad14 pt14 => ?_)
    refine LR.v (Y.load1 pt14 rfl Try.isAgg5 rfl) (Wd.u rfl) rfl rfl ?_
    refine LR.v (Y.eql rfl rfl rfl) (Wd.u rfl) rfl rfl ?_
    refine LR.nil ?_
    refine hK12 _ _ ?_
    refine CW.condp rfl (fun c16 => ?_) (fun c16 => ?_)
    ·
      have hb10 : b[i] = 10 := by apply UInt8.toNat_inj.1; have := c16; simp at this ⊢; omega
      rw [if_pos hb10, ← take_snoc b f i hf (by omega)] at hsp
      refine CW.seq (fun K13 hK13 hE13 => ?_)
      refine CW.region ?_
      refine LR.v (Y.move rfl rfl) (Wd.u rfl) rfl rfl ?_
      refine LR.v (Y.move rfl rfl) (Wd.u rfl) rfl rfl ?_
      refine LR.v (Y.move rfl rfl) (Wd.u rfl) rfl rfl ?_
      refine LR.v (Y.move rfl rfl) (Wd.u rfl) rfl rfl ?_
      refine LR.v (Y.addi rfl rfl rfl (by omega)) (Wd.u rfl) rfl rfl ?_
      refine LR.e (g := fun v => v) (Y.slice hv2 (f) (i + 1) rfl Try.runUnderlying41 Try.sizeOf5 rfl (.inr ⟨_, _, _, rfl, rfl, by first | rfl | omega⟩) (.inr ⟨_, _, _, rfl, rfl, by first | rfl | omega⟩) (by omega) (by omega)) (Wd.u rfl) rfl rfl (fun v22 rd22 => ?_)
      refine LR.v (Y.bstr rd22 rfl Try.underlying41 Try.underlying9 Try.underlying5 rfl) (Wd.u rfl) rfl rfl ?_
      refine LR.z (Z.lit _ ([(b.take (i + 1)).drop f]) rfl inf22 rfl rfl rfl (by decide) (by decide) fS_len fS_one rfl) (Wd.u rfl) rfl rfl (fun v24 H24 r24 => ?_)
      obtain ⟨hl24, hs24, -⟩ := r24
      replace hv2 := hv2.nw hs24
      replace ho := ho.nw hs24
      replace hs := hs.tr hs24
      have hz24 := hs24.size
      refine LR.z (Z.append ho hl24.rd rfl inf22 rfl rfl (by simp; omega) (by simp; omega)) (Wd.u rfl) rfl rfl (fun v25 H25 r25 => ?_)
      obtain ⟨ho, hs25⟩ := r25
      replace hv2 := hv2.up hs25 (fun b _ h1 h2 => by omega)
      replace hs := hs.trans hs25 (fun _ _ e => e) (fun b hb e => by omega)
      have hz25 := hs25.size
      refine LR.v (Y.assign rfl rfl) (Wd.u rfl) rfl rfl ?_
      refine LR.nil ?_
      refine hK13 _ _ ?_
      refine CW.region ?_
      refine LR.v (Y.move rfl rfl) (Wd.u rfl) rfl rfl ?_
      refine LR.v (Y.addi rfl rfl rfl (by omega)) (Wd.u rfl) rfl rfl ?_
      refine LR.v (Y.assign rfl rfl) (Wd.u rfl) rfl rfl ?_
      refine LR.nil ?_
      refine hK11 _ _ ?_
      refine hK10 _ _ ?_
      refine CW.region ?_
      refine LR.v (Y.move rfl rfl) (Wd.u rfl) rfl rfl ?_
      refine LR.v (Y.addi rfl rfl rfl (by omega)) (Wd.u rfl) rfl rfl ?_
      refine LR.v (Y.assign rfl rfl) (Wd.u rfl) rfl rfl ?_
      refine LR.nil ?_
      refine QN.sub (hN7 (i + 1, i + 1, v25, out ++ [(b.take (i + 1)).drop f]) _ ?_ ?_) ⟨rfl, rfl, (iv (by omega)), (iv (by omega)), trivial⟩
      · exact ⟨hs, ho.imp (fun b _ e => by omega), by omega, by omega, by simp; omega, by rw [← hsp]; simp⟩
      · show b.length - (i + 1) < b.length - i; omega
    ·
      have hb10 : ¬ b[i] = 10 := by intro e; apply c16; rw [e]; rfl
      rw [if_neg hb10, ← take_snoc b f i hf (by omega)] at hsp
      refine CW.skip ?_
      refine hK11 _ _ ?_
      refine hK10 _ _ ?_
      refine CW.region ?_
      refine LR.v (Y.move rfl rfl) (Wd.u rfl) rfl rfl ?_
      refine LR.v (Y.addi rfl rfl rfl (by omega)) (Wd.u rfl) rfl rfl ?_
      refine LR.v (Y.assign rfl rfl) (Wd.u rfl) rfl rfl ?_
      refine LR.nil ?_
      refine QN.sub (hN7 (i + 1, f, vo, out) _ ?_ ?_) ⟨rfl, rfl, (iv (by omega)), (iv (by omega)), trivial⟩
      · exact ⟨hs, ho, by omega, by omega, by omega, hsp⟩
      · show b.length - (i + 1) < b.length - i; omega
  ·
    rw [List.take_of_length_le (show b.length ≤ i by omega), List.drop_of_length_le (show b.length ≤ i by omega), splitL] at hsp
    refine CW.exit (hE8 (.exit 0) nofun _ _ (hE7 (.exit 0) nofun _ _ (hX6 _ _ ?_)))
    refine hK4 _ _ ?_
    refine CW.seq (fun K14 hK14 hE14 => ?_)
    refine CW.seq (fun K15 hK15 hE15 => ?_)
    refine CW.region ?_
    refine LR.v (Y.move rfl rfl) (Wd.u rfl) rfl rfl ?_
    refine LR.v (Y.move rfl rfl) (Wd.u rfl) rfl rfl ?_
    refine LR.v (Y.len hv2 rfl Try.runUnderlying41 rfl) (Wd.u rfl) rfl rfl ?_
    refine LR.v (Y.lss rfl rfl rfl) (Wd.u rfl) rfl rfl ?_
    refine LR.nil ?_
    refine hK15 _ _ ?_
    refine CW.condp rfl (fun c31 => ?_) (fun c31 => ?_)
    ·
      rw [if_neg (by intro e; rw [List.drop_eq_nil_iff] at e; omega)] at hsp
      refine CW.region ?_
      refine LR.v (Y.move rfl rfl) (Wd.u rfl) rfl rfl ?_
      refine LR.v (Y.move rfl rfl) (Wd.u rfl) rfl rfl ?_
      refine LR.v (Y.move rfl rfl) (Wd.u rfl) rfl rfl ?_
      refine LR.e (g := fun v => v) (Y.slice hv2 (f) (_) rfl Try.runUnderlying41 Try.sizeOf5 rfl (.inr ⟨_, _, _, rfl, rfl, by first | rfl | omega⟩) (.inl ⟨rfl, rfl⟩) (by omega) (by omega)) (Wd.u rfl) rfl rfl (fun v35 rd35 => ?_)
      refine LR.v (Y.bstr rd35 rfl Try.underlying41 Try.underlying9 Try.underlying5 rfl) (Wd.u rfl) rfl rfl ?_
      refine LR.z (Z.lit _ ([(b.take b.length).drop f]) rfl inf22 rfl rfl rfl (by decide) (by decide) fS_len fS_one rfl) (Wd.u rfl) rfl rfl (fun v37 H37 r37 => ?_)
      obtain ⟨hl37, hs37, -⟩ := r37
      replace hv2 := hv2.nw hs37
      replace ho := ho.nw hs37
      replace hs := hs.tr hs37
      have hz37 := hs37.size
      refine LR.z (Z.append ho hl37.rd rfl inf22 rfl rfl (by simp; omega) (by simp; omega)) (Wd.u rfl) rfl rfl (fun v38 H38 r38 => ?_)
      obtain ⟨ho, hs38⟩ := r38
      replace hv2 := hv2.up hs38 (fun b _ h1 h2 => by omega)
      replace hs := hs.trans hs38 (fun _ _ e => e) (fun b hb e => by omega)
      have hz38 := hs38.size
      refine LR.v (Y.assign rfl rfl) (Wd.u rfl) rfl rfl ?_
      refine LR.nil ?_
      refine hK14 _ _ ?_
      refine CW.seq (fun K16 hK16 hE16 => ?_)
      refine CW.region ?_
      refine LR.v (Y.move rfl rfl) (Wd.u rfl) rfl rfl ?_
      refine LR.v (Y.assign rfl rfl) (Wd.u rfl) rfl rfl ?_
      refine LR.nil ?_
      refine hK16 _ _ ?_
      refine CW.ret (hret .ret (.inr rfl) _ _ _ (res1 rfl rfl) ?_)
      rw [← hsp]
      rw [List.take_length] at ho
      exact ⟨ho.imp (fun b _ e => by omega), hs⟩
    ·
      rw [if_pos (by rw [List.drop_eq_nil_iff]; omega), List.append_nil] at hsp
      refine CW.skip ?_
      refine hK14 _ _ ?_
      refine CW.seq (fun K17 hK17 hE17 => ?_)
      refine CW.region ?_
      refine LR.v (Y.move rfl rfl) (Wd.u rfl) rfl rfl ?_
      refine LR.v (Y.assign rfl rfl) (Wd.u rfl) rfl rfl ?_
      refine LR.nil ?_
      refine hK17 _ _ ?_
      refine CW.ret (hret .ret (.inr rfl) _ _ _ (res1 rfl rfl) ?_)
      rw [← hsp]
      exact ⟨ho, hs⟩

theorem join_ct (v : Value) (l : List (List UInt8)) (w0 : World) (H0 : Heap)
    (hv : RdT H0 fS 1 v l) (hl : l.flatten.length ≤ 1073741824) :
    Ct Try.prog w0 21 #[v] H0 (fun r H2 => Own (fun b => H0.size ≤ b) 5 H2 fB 1 r l.flatten ∧ Nw H0 H2) := by
  refine Ct.enter (args := [v]) Try.func21 rfl rfl rfl ?_
  intro Q0 hret
  have hvl := hv.len
  replace hv := hv.lt
  refine CW.seq (fun K1 hK1 hE1 => ?_)
  refine CW.region ?_
  refine LR.v (Y.assign rfl rfl) (Wd.u rfl) rfl rfl ?_
  refine LR.nil ?_
  refine hK1 _ _ ?_
  refine CW.seq (fun K2 hK2 hE2 => ?_)
  refine CW.region ?_
  refine LR.v (Y.assign rfl rfl) (Wd.u rfl) rfl rfl ?_
  refine LR.nil ?_
  refine hK2 _ _ ?_
  refine CW.seq (fun K3 hK3 hE3 => ?_)
  refine CW.seq (fun K4 hK4 hE4 => ?_)
  refine CW.region ?_
  refine LR.v (Y.move rfl rfl) (Wd.u rfl) rfl rfl ?_
  refine LR.v (Y.len hv rfl Try.runUnderlying22 rfl) (Wd.u rfl) rfl rfl ?_
  refine LR.v (Y.move rfl rfl) (Wd.u rfl) rfl rfl ?_
  refine LR.nil ?_
  refine hK4 _ _ ?_
  refine CW.block (fun K5 hK5 hX5 hE5 => ?_)
  refine CW.loop (fun (s : (Nat) × (Value)) => match s with | (k, vo) => [(3, vo), (6, v), (7, .int .i64 l.length), (8, .int .i64 k)])
    (fun (s : (Nat) × (Value)) (H : Heap) => match s with | (k, vo) => Nw H0 H ∧ Own (fun b => H0.size ≤ b) 5 H fB 1 vo (l.take k).flatten ∧ k ≤ l.length)
    (fun (s : (Nat) × (Value)) => match s with | (k, vo) => l.length - k) (0, .slice none 0 0) ⟨rfl, rfl, rfl, rfl, trivial⟩ ?_ ?_
  ·
    exact ⟨Nw.refl _, Own.nil fB_len fB_one, by omega⟩
  rintro ⟨k, vo⟩ H1 hI1 K6 hN6 hE6
  obtain ⟨hs, ho, hk⟩ := hI1
  have hzz := hs.size
  have hv2 := hv.nw hs
  have hfl := flatten_take_le l k
  refine CW.seq (fun K7 hK7 hE7 => ?_)
  refine CW.region ?_
  refine LR.v (Y.lss rfl rfl rfl) (Wd.u rfl) rfl rfl ?_
  refine LR.nil ?_
  refine hK7 _ _ ?_
  refine CW.seq (fun K8 hK8 hE8 => ?_)
  refine CW.condp rfl (fun c9 => ?_) (fun c9 => ?_)
  ·
    refine CW.skip ?_
    refine hK8 _ _ ?_
    refine CW.seq (fun K9 hK9 hE9 => ?_)
    refine CW.block (fun K10 hK10 hX10 hE10 => ?_)
    refine CW.seq (fun K11 hK11 hE11 => ?_)
    refine CW.region ?_
    refine LR.e (g := fun ad => .pointer (some ad)) (Y.indexAddr hv2 (k) rfl Try.runUnderlying22 Try.sizeOf9 rfl rfl (by first | rfl | omega) (by omega)) (Wd.u rfl) rfl rfl (fun ad10 pt10 => ?_)
    refine LR.v (Y.load1 pt10 rfl Try.isAgg9 rfl) (Wd.u rfl) rfl rfl ?_
    refine LR.v (Y.assign rfl rfl) (Wd.u rfl) rfl rfl ?_
    refine LR.nil ?_
    refine hK11 _ _ ?_
    refine CW.region ?_
    refine LR.v (Y.move rfl rfl) (Wd.u rfl) rfl rfl ?_
    refine LR.v (Y.move rfl rfl) (Wd.u rfl) rfl rfl ?_
    have hft := flatten_take l k (by omega)
    have hfl2 := flatten_take_le l (k + 1)
    rw [hft, List.length_append] at hfl2
    refine LR.z (Z.appendStr ho rfl inf41 Try.underlying9 rfl rfl (by omega)) (Wd.u rfl) rfl rfl (fun v14 H14 r14 => ?_)
    obtain ⟨ho, hs2⟩ := r14
    replace hs := hs.trans hs2 (fun _ _ e => e) (fun b hb e => by omega)
    refine LR.v (Y.assign rfl rfl) (Wd.u rfl) rfl rfl ?_
    refine LR.nil ?_
    refine hK10 _ _ ?_
    refine hK9 _ _ ?_
    refine CW.region ?_
    refine LR.v (Y.addi rfl rfl rfl (by omega)) (Wd.u rfl) rfl rfl ?_
    refine LR.v (Y.move rfl rfl) (Wd.u rfl) rfl rfl ?_
    refine LR.nil ?_
    refine QN.sub (hN6 (k + 1, v14) _ ?_ ?_) ⟨rfl, rfl, (iv (by omega)), (iv (by omega)), trivial⟩
    · exact ⟨hs, by rw [hft]; exact ho.imp (fun b _ e => by omega), by omega⟩
    · show l.length - (k + 1) < l.length - k; omega
  ·
    refine CW.exit (hE8 (.exit 0) nofun _ _ (hE6 (.exit 0) nofun _ _ (hX5 _ _ ?_)))
    refine hK3 _ _ ?_
    refine CW.seq (fun K12 hK12 hE12 => ?_)
    refine CW.region ?_
    refine LR.v (Y.move rfl rfl) (Wd.u rfl) rfl rfl ?_
    refine LR.v (Y.assign rfl rfl) (Wd.u rfl) rfl rfl ?_
    refine LR.nil ?_
    refine hK12 _ _ ?_
    refine CW.ret (hret .ret (.inr rfl) _ _ _ (res1 rfl rfl) ?_)
    rw [List.take_of_length_le (by omega)] at ho
    exact ⟨ho, hs⟩

theorem rjoin_ct (v : Value) (l : List (List UInt8)) (w0 : World) (H0 : Heap)
    (hv : RdT H0 fS 1 v l) (hl : l.flatten.length ≤ 1073741824) :
    Ct Try.prog w0 22 #[v] H0 (fun r H2 => Own (fun b => H0.size ≤ b) 5 H2 fB 1 r l.flatten ∧ Nw H0 H2) := by
  refine Ct.enter (args := [v]) Try.func22 rfl rfl rfl ?_
  intro Q0 hret
  have hvl := hv.len
  replace hv := hv.lt
  refine CW.seq (fun K1 hK1 hE1 => ?_)
  refine CW.region ?_
  refine LR.v (Y.assign rfl rfl) (Wd.u rfl) rfl rfl ?_
  refine LR.nil ?_
  refine hK1 _ _ ?_
  refine CW.seq (fun K2 hK2 hE2 => ?_)
  refine CW.region ?_
  refine LR.v (Y.assign rfl rfl) (Wd.u rfl) rfl rfl ?_
  refine LR.nil ?_
  refine hK2 _ _ ?_
  refine CW.seq (fun K3 hK3 hE3 => ?_)
  refine CW.seq (fun K4 hK4 hE4 => ?_)
  refine CW.region ?_
  refine LR.v (Y.assign rfl rfl) (Wd.u rfl) rfl rfl ?_
  refine LR.nil ?_
  refine hK4 _ _ ?_
  refine CW.block (fun K5 hK5 hX5 hE5 => ?_)
  refine CW.loop (fun (s : (Nat) × (Value)) => match s with | (k, vo) => [(0, v), (3, vo), (4, .int .i64 k)])
    (fun (s : (Nat) × (Value)) (H : Heap) => match s with | (k, vo) => Nw H0 H ∧ Own (fun b => H0.size ≤ b) 5 H fB 1 vo (l.take k).flatten ∧ k ≤ l.length)
    (fun (s : (Nat) × (Value)) => match s with | (k, vo) => l.length - k) (0, .slice none 0 0) ⟨rfl, rfl, rfl, trivial⟩ ?_ ?_
  ·
    exact ⟨Nw.refl _, Own.nil fB_len fB_one, by omega⟩
  rintro ⟨k, vo⟩ H1 hI1 K6 hN6 hE6
  obtain ⟨hs, ho, hk⟩ := hI1
  have hzz := hs.size
  have hv2 := hv.nw hs
  have hfl := flatten_take_le l k
  refine CW.seq (fun K7 hK7 hE7 => ?_)
  refine CW.seq (fun K8 hK8 hE8 => ?_)
  refine CW.region ?_
  refine LR.v (Y.move rfl rfl) (Wd.u rfl) rfl rfl ?_
  refine LR.v (Y.move rfl rfl) (Wd.u rfl) rfl rfl ?_
  refine LR.v (Y.len hv2 rfl Try.runUnderlying22 rfl) (Wd.u rfl) rfl rfl ?_
  refine LR.v (Y.lss rfl rfl rfl) (Wd.u rfl) rfl rfl ?_
  refine LR.nil ?_
  refine hK8 _ _ ?_
  refine CW.condp rfl (fun c8 => ?_) (fun c8 => ?_)
  ·
    refine CW.skip ?_
    refine hK7 _ _ ?_
    refine CW.seq (fun K9 hK9 hE9 => ?_)
    refine CW.block (fun K10 hK10 hX10 hE10 => ?_)
    refine CW.region ?_
    refine LR.v (Y.move rfl rfl) (Wd.u rfl) rfl rfl ?_
    refine LR.v (Y.move rfl rfl) (Wd.u rfl) rfl rfl ?_
    refine LR.v (Y.move rfl rfl) (Wd.u rfl) rfl rfl ?_
    refine LR.e (g := fun ad => .pointer (some ad)) (Y.indexAddr hv2 (k) rfl Try.runUnderlying22 Try.sizeOf9 rfl rfl (by first | rfl | omega) (by omega)) (Wd.u rfl) rfl rfl (fun ad14 pt14 => ?_)
    refine LR.v (Y.load1 pt14 rfl Try.isAgg9 rfl) (Wd.u rfl) rfl rfl ?_
    have hft := flatten_take l k (by omega)
    have hfl2 := flatten_take_le l (k + 1)
    rw [hft, List.length_append] at hfl2
    refine LR.z (Z.appendStr ho rfl inf41 Try.underlying9 rfl rfl (by omega)) (Wd.u rfl) rfl rfl (fun v16 H16 r16 => ?_)
    obtain ⟨ho, hs2⟩ := r16
    replace hs := hs.trans hs2 (fun _ _ e => e) (fun b hb e => by omega)
    refine LR.v (Y.assign rfl rfl) (Wd.u rfl) rfl rfl ?_
    refine LR.nil ?_
    refine hK10 _ _ ?_
    refine hK9 _ _ ?_
    refine CW.region ?_
    refine LR.v (Y.move rfl rfl) (Wd.u rfl) rfl rfl ?_
    refine LR.v (Y.addi rfl rfl rfl (by omega)) (Wd.u rfl) rfl rfl ?_
    refine LR.v (Y.assign rfl rfl) (Wd.u rfl) rfl rfl ?_
    refine LR.nil ?_
    refine QN.sub (hN6 (k + 1, v16) _ ?_ ?_) ⟨rfl, rfl, (iv (by omega)), trivial⟩
    · exact ⟨hs, by rw [hft]; exact ho.imp (fun b _ e => by omega), by omega⟩
    · show l.length - (k + 1) < l.length - k; omega
  ·
    refine CW.exit (hE7 (.exit 0) nofun _ _ (hE6 (.exit 0) nofun _ _ (hX5 _ _ ?_)))
    refine hK3 _ _ ?_
    refine CW.seq (fun K11 hK11 hE11 => ?_)
    refine CW.region ?_
    refine LR.v (Y.move rfl rfl) (Wd.u rfl) rfl rfl ?_
    refine LR.v (Y.assign rfl rfl) (Wd.u rfl) rfl rfl ?_
    refine LR.nil ?_
    refine hK11 _ _ ?_
    refine CW.ret (hret .ret (.inr rfl) _ _ _ (res1 rfl rfl) ?_)
    rw [List.take_of_length_le (by omega)] at ho
    exact ⟨ho, hs⟩


theorem few_flat {l : List (List UInt8)} (h : l.length ≤ 120) (hs : ∀ s ∈ l, s.length ≤ 1048576) : l.flatten.length ≤ 1073741824 := by
  have : ∀ l : List (List UInt8), (∀ s ∈ l, s.length ≤ 1048576) → l.flatten.length ≤ l.length * 1048576 := by
    intro l
    induction l with
    | nil => intro _; simp
    | cons s l ih => intro h; have h1 := h s (by simp); have h2 := ih (fun s hs => h s (by simp [hs])); rw [List.flatten_cons, List.length_append, List.length_cons]; omega
  have := this l hs
  omega

theorem linesSplits_ct (vb vl : Value) (b : List UInt8) (l : List (List UInt8)) (w0 : World) (H0 : Heap)
    (hb : RdT H0 fB 1 vb b) (hl : RdT H0 fS 1 vl l) (hll : (∀ s ∈ l, s.length ≤ 1048576) ∧ l.length ≤ 1048576) :
    Ct Try.prog w0 7 #[vb, vl] H0 (fun r H2 => r = .bool true ∧ Nw H0 H2) := by
  refine Ct.enter (args := [vb, vl]) Try.func7 rfl rfl rfl ?_
  intro Q0 hret
  have hbl := hb.len
  replace hb := hb.lt
  replace hl := hl.lt
  refine CW.seq (fun K1 hK1 hE1 => ?_)
  refine CW.region ?_
  refine LR.v (Y.assign rfl rfl) (Wd.u rfl) rfl rfl ?_
  refine LR.nil ?_
  refine hK1 _ _ ?_
  refine CW.seq (fun K2 hK2 hE2 => ?_)
  refine CW.seq (fun K3 hK3 hE3 => ?_)
  refine CW.region ?_
  -- call selvage/selvagelaw12.known
  refine LR.call rfl Try.call10 rfl (Wd.u rfl) rfl rfl (known_ct w0 H0) (fun v8 H8 r8 => ?_)
  obtain ⟨rfl, hs⟩ := r8
  replace hb := hb.nw hs
  replace hl := hl.nw hs
  have hz8 := hs.size
  refine LR.v (Y.not rfl rfl) (Wd.u rfl) rfl rfl ?_
  refine LR.nil ?_
  refine hK3 _ _ ?_
  refine CW.cond_f rfl ?_
  refine CW.skip ?_
  refine hK2 _ _ ?_
  refine CW.seq (fun K4 hK4 hE4 => ?_)
  refine CW.seq (fun K5 hK5 hE5 => ?_)
  refine CW.region ?_
  refine LR.v (Y.move rfl rfl) (Wd.u rfl) rfl rfl ?_
  refine LR.v (Y.len hb rfl Try.runUnderlying41 rfl) (Wd.u rfl) rfl rfl ?_
  refine LR.v (Y.gtr rfl rfl rfl) (Wd.u rfl) rfl rfl ?_
  refine LR.v (Y.move rfl rfl) (Wd.u rfl) rfl rfl ?_
  refine LR.splitp (d := 13) rfl (fun g13 => ?_) (fun g13 => ?_)
  ·
    refine LR.gs rfl rfl rfl rfl rfl rfl ?_
    refine LR.gs rfl rfl rfl rfl rfl rfl ?_
    refine LR.gs rfl rfl rfl rfl rfl rfl ?_
    refine LR.v (Y.pick_t rfl rfl rfl) (Wd.u rfl) rfl rfl ?_
    refine LR.nil ?_
    refine hK5 _ _ ?_
    refine CW.cond_t rfl ?_
    refine CW.seq (fun K6 hK6 hE6 => ?_)
    refine CW.region ?_
    refine LR.v (Y.assign rfl rfl) (Wd.u rfl) rfl rfl ?_
    refine LR.nil ?_
    refine hK6 _ _ ?_
    refine CW.ret (hE4 .ret nofun _ _ (hret .ret (.inr rfl) _ _ _ (res1 rfl rfl) ?_))
    exact ⟨rfl, hs⟩
  ·
    refine LR.v (Y.move rfl rfl) (Wd.g rfl rfl rfl) rfl rfl ?_
    -- call selvage/selvagelaw12.Few
    refine LR.call rfl Try.call11 rfl (Wd.g rfl rfl rfl) rfl rfl (few_ct _ _ w0 H8 hl.any hll.1 hll.2) (fun v15 H15 r15 => ?_)
    obtain ⟨rfl, rfl⟩ := r15
    refine LR.v (Y.notp rfl rfl) (Wd.g rfl rfl rfl) rfl rfl ?_
    refine LR.v (Y.pick_f rfl rfl rfl) (Wd.u rfl) rfl rfl ?_
    refine LR.nil ?_
    refine hK5 _ _ ?_
    refine CW.condp rfl (fun c17 => ?_) (fun c17 => ?_)
    ·
      refine CW.seq (fun K7 hK7 hE7 => ?_)
      refine CW.region ?_
      refine LR.v (Y.assign rfl rfl) (Wd.u rfl) rfl rfl ?_
      refine LR.nil ?_
      refine hK7 _ _ ?_
      refine CW.ret (hE4 .ret nofun _ _ (hret .ret (.inr rfl) _ _ _ (res1 rfl rfl) ?_))
      exact ⟨rfl, hs⟩
    ·
      have hfl := (Decidable.not_not.1 c17).len
      have hbl2 : b.length ≤ 8192 := by omega
      refine CW.skip ?_
      refine hK4 _ _ ?_
      refine CW.seq (fun K8 hK8 hE8 => ?_)
      refine CW.region ?_
      refine LR.z (Z.lit _ (([] : List UInt8)) rfl inf41 rfl rfl rfl (by decide) (by decide) fB_len fB_one rfl) (Wd.u rfl) rfl rfl (fun v18 H18 r18 => ?_)
      obtain ⟨ho, hs18, ob18, hH18⟩ := r18
      replace hb := hb.nw hs18
      replace hl := hl.nw hs18
      replace hs := hs.tr hs18
      have hz18 : H18.size = H15.size + 1 := by rw [hH18]; simp
      refine LR.v (Y.move rfl rfl) (Wd.u rfl) rfl rfl ?_
      refine LR.z (Z.append ho hb rfl inf41 rfl rfl (by simp; omega) (by simp; omega)) (Wd.u rfl) rfl rfl (fun v20 H20 r20 => ?_)
      obtain ⟨ho, hs20⟩ := r20
      replace hb := hb.up hs20 (fun b _ h1 h2 => by omega)
      replace hl := hl.up hs20 (fun b _ h1 h2 => by omega)
      replace hs := hs.trans hs20 (fun _ _ e => e) (fun b hb e => (by omega : False))
      have hz20 := hs20.size
      rw [List.nil_append] at ho
      replace ho := ho.imp (G' := fun b => H15.size ≤ b ∧ b < H20.size) (fun b hb e => ⟨by omega, hb⟩)
      refine LR.v (Y.assign rfl rfl) (Wd.u rfl) rfl rfl ?_
      refine LR.nil ?_
      refine hK8 _ _ ?_
      refine CW.seq (fun K9 hK9 hE9 => ?_)
      refine CW.region ?_
      refine LR.v (Y.move rfl rfl) (Wd.u rfl) rfl rfl ?_
      -- call selvage/lines.Split
      refine LR.call rfl Try.call19 rfl (Wd.u rfl) rfl rfl (split_ct _ b w0 H20 ho.rd.any (by omega)) (fun v22 H22 r22 => ?_)
      obtain ⟨hx, hs22⟩ := r22
      replace hb := hb.nw hs22
      replace hl := hl.nw hs22
      replace ho := ho.nw hs22
      replace hs := hs.tr hs22
      have hz22 := hs22.size
      replace hx := hx.rd
      refine LR.v (Y.assign rfl rfl) (Wd.u rfl) rfl rfl ?_
      refine LR.nil ?_
      refine hK9 _ _ ?_
      refine CW.seq (fun K10 hK10 hE10 => ?_)
      refine CW.seq (fun K11 hK11 hE11 => ?_)
      refine CW.region ?_
      refine LR.v (Y.assign rfl rfl) (Wd.u rfl) rfl rfl ?_
      refine LR.nil ?_
      refine hK11 _ _ ?_
      refine CW.block (fun K12 hK12 hX12 hE12 => ?_)
      refine CW.loop (fun (s : (Nat) × (List UInt8)) => match s with | (k, m) => [(0, vb), (1, vl), (5, v20), (6, v22), (7, .int .i64 k)])
        (fun (s : (Nat) × (List UInt8)) (H : Heap) => match s with | (k, m) => Mo (fun b => H15.size ≤ b ∧ b < H20.size) H22 H ∧ Own (fun b => H15.size ≤ b ∧ b < H20.size) 5 H fB 1 v20 m ∧ m.length = b.length ∧ k ≤ b.length)
        (fun (s : (Nat) × (List UInt8)) => match s with | (k, m) => b.length - k) (0, b) ⟨rfl, rfl, rfl, rfl, rfl, trivial⟩ ?_ ?_
      ·
        exact ⟨Mo.refl _ _, ho, rfl, by omega⟩
      rintro ⟨k, m⟩ H1 hI1 K13 hN13 hE13
      obtain ⟨hm, ho, hml, hk⟩ := hI1
      refine CW.seq (fun K14 hK14 hE14 => ?_)
      refine CW.seq (fun K15 hK15 hE15 => ?_)
      refine CW.region ?_
      refine LR.v (Y.move rfl rfl) (Wd.u rfl) rfl rfl ?_
      refine LR.v (Y.move rfl rfl) (Wd.u rfl) rfl rfl ?_
      refine LR.v (Y.len ho.rd rfl Try.runUnderlying41 rfl) (Wd.u rfl) rfl rfl ?_
      refine LR.v (Y.lss rfl rfl rfl) (Wd.u rfl) rfl rfl ?_
      refine LR.nil ?_
      refine hK15 _ _ ?_
      refine CW.condp rfl (fun c26 => ?_) (fun c26 => ?_)
      ·
        refine CW.skip ?_
        refine hK14 _ _ ?_
        refine CW.seq (fun K16 hK16 hE16 => ?_)
        refine CW.block (fun K17 hK17 hX17 hE17 => ?_)
        refine CW.region ?_
        refine LR.v (Y.move rfl rfl) (Wd.u rfl) rfl rfl ?_
        refine LR.v (Y.move rfl rfl) (Wd.u rfl) rfl rfl ?_
        have ho0 := ho
        refine LR.v (Y.ownAddr ho (k) rfl Try.runUnderlying41 Try.sizeOf5 rfl rfl (by first | rfl | omega) (by omega)) (Wd.u rfl) rfl rfl ?_
        refine LR.s (S.own ho (k) 0 ((238 : UInt8)) rfl rfl rfl rfl Try.sizeOf5 (by omega) (by decide) (rfl)) (Wd.u rfl) rfl (fun H10_3 r10_3 => ?_)
        obtain ⟨ho, hs10⟩ := r10_3
        refine LR.nil ?_
        refine hK17 _ _ ?_
        refine hK16 _ _ ?_
        refine CW.region ?_
        refine LR.v (Y.move rfl rfl) (Wd.u rfl) rfl rfl ?_
        refine LR.v (Y.addi rfl rfl rfl (by omega)) (Wd.u rfl) rfl rfl ?_
        refine LR.v (Y.assign rfl rfl) (Wd.u rfl) rfl rfl ?_
        refine LR.nil ?_
        refine QN.sub (hN13 (k + 1, m.set k 238) _ ?_ ?_) ⟨rfl, rfl, rfl, rfl, (iv (by omega)), trivial⟩
        · exact ⟨hm.trans hs10 (fun _ _ e => e) (fun c hc e => by rw [e]; exact (ho0.at (j := k) (by omega)).1), ho, by simp [hml], by omega⟩
        · show b.length - (k + 1) < b.length - k; omega
      ·
        replace hb := (hb.up hm (fun b _ h1 h2 => by omega)).any
        replace hl := (hl.up hm (fun b _ h1 h2 => by omega)).any
        replace hx := (hx.up hm (fun b _ h1 h2 => by omega)).any
        replace hs := hs.trans hm (fun _ _ e => e) (fun b hb e => (by omega : False))
        have hsl := splitL_len b []
        have hsf := splitL_flat b []
        rw [List.nil_append] at hsf
        refine CW.exit (hE14 (.exit 0) nofun _ _ (hE13 (.exit 0) nofun _ _ (hX12 _ _ ?_)))
        refine hK10 _ _ ?_
        refine CW.seq (fun K18 hK18 hE18 => ?_)
        refine CW.region_any (fun Hq => Nw H1 Hq) rfl ?_
        have hqs := Nw.refl H1
        refine LH.take 0 rfl (by kernel_rfl) (by kernel_rfl) (by kernel_rfl) (fun Hq hq => Y.move rfl rfl) (Wd.u rfl) rfl rfl hqs ?_
        refine LH.take 1 rfl (by kernel_rfl) (by kernel_rfl) (by kernel_rfl) (fun Hq hq => Y.move rfl rfl) (Wd.u rfl) rfl rfl hqs ?_
        refine LH.one (i := 2) (by kernel_rfl) ?_
        -- call selvage/selvageref12.Split
        refine LO.call rfl rfl Try.call20 rfl (Wd.u rfl) rfl rfl (rsplit_ct _ b w0 H1 hb (by omega)) (fun v34 H34 r34 => ?_)
        obtain ⟨hy, hs34⟩ := r34
        replace hb := hb.nw hs34
        replace hl := hl.nw hs34
        replace hx := hx.nw hs34
        replace hs := hs.tr hs34
        have hq34 := hqs.tr hs34
        refine ⟨hq34, LH.narrow (SH2 := fun Hq => Nw H34 Hq) (fun Hq hq => hq34.tr hq) ?_⟩
        have hqn34 := Nw.refl H34
        refine LH.one (i := 3) (by kernel_rfl) ?_
        -- call selvage/selvageref12.Same
        refine LO.call rfl rfl Try.call15 rfl (Wd.u rfl) rfl rfl (same_ct _ _ _ _ w0 H34 hx hy.rd.any) (fun v35 H35 r35 => ?_)
        obtain ⟨hv35, rfl⟩ := r35
        rw [decide_eq_true rfl] at hv35
        subst hv35
        have hs35 := Nw.refl H35
        have hq35 := hqn34.tr hs35
        refine ⟨hq35, LH.narrow (SH2 := fun Hq => Nw H35 Hq) (fun Hq hq => hq35.tr hq) ?_⟩
        have hqn35 := Nw.refl H35
        refine LH.take 4 rfl (by kernel_rfl) (by kernel_rfl) (by kernel_rfl) (fun Hq hq => Y.move rfl rfl) (Wd.u rfl) rfl rfl hqn35 ?_
        refine LH.take 5 rfl (by kernel_rfl) (by kernel_rfl) (by kernel_rfl) (fun Hq hq => Y.move rfl rfl) (Wd.g rfl rfl rfl) rfl rfl hqn35 ?_
        refine LH.take 8 rfl (by kernel_rfl) (by kernel_rfl) (by kernel_rfl) (fun Hq hq => Y.move rfl rfl) (Wd.g rfl rfl rfl) rfl rfl hqn35 ?_
        refine LH.take 9 rfl (by kernel_rfl) (by kernel_rfl) (by kernel_rfl) (fun Hq hq => Y.bstr (hb.nw hq) rfl Try.underlying41 Try.underlying9 Try.underlying5 rfl) (Wd.g rfl rfl rfl) rfl rfl hqn35 ?_
        refine LH.one (i := 6) (by kernel_rfl) ?_
        -- call selvage/lines.Join
        refine LO.call rfl rfl Try.call21 rfl (Wd.g rfl rfl rfl) rfl rfl (join_ct _ _ w0 H35 hx (by rw [hsf]; omega)) (fun v38 H38 r38 => ?_)
        obtain ⟨hj, hs38⟩ := r38
        rw [hsf] at hj
        replace hb := hb.nw hs38
        replace hl := hl.nw hs38
        replace hs := hs.tr hs38
        have hq38 := hqn35.tr hs38
        refine ⟨hq38, LH.narrow (SH2 := fun Hq => Nw H38 Hq) (fun Hq hq => hq38.tr hq) ?_⟩
        have hqn38 := Nw.refl H38
        refine LH.take 7 rfl (by kernel_rfl) (by kernel_rfl) (by kernel_rfl) (fun Hq hq => Y.bstr (hj.rd.nw hq) rfl Try.underlying41 Try.underlying9 Try.underlying5 rfl) (Wd.g rfl rfl rfl) rfl rfl hqn38 ?_
        refine LH.take 10 rfl (by kernel_rfl) (by kernel_rfl) (by kernel_rfl) (fun Hq hq => (Y.seql rfl rfl rfl).isT (rfl)) (Wd.g rfl rfl rfl) rfl rfl hqn38 ?_
        refine LH.take 11 rfl (by kernel_rfl) (by kernel_rfl) (by kernel_rfl) (fun Hq hq => Y.pick_t rfl rfl rfl) (Wd.u rfl) rfl rfl hqn38 ?_
        refine LH.take 12 rfl (by kernel_rfl) (by kernel_rfl) (by kernel_rfl) (fun Hq hq => Y.move rfl rfl) (Wd.u rfl) rfl rfl hqn38 ?_
        refine LH.take 13 rfl (by kernel_rfl) (by kernel_rfl) (by kernel_rfl) (fun Hq hq => Y.move rfl rfl) (Wd.g rfl rfl rfl) rfl rfl hqn38 ?_
        refine LH.take 16 rfl (by kernel_rfl) (by kernel_rfl) (by kernel_rfl) (fun Hq hq => Y.move rfl rfl) (Wd.g rfl rfl rfl) rfl rfl hqn38 ?_
        refine LH.one (i := 14) (by kernel_rfl) ?_
        -- call selvage/lines.Join
        refine LO.call rfl rfl Try.call21 rfl (Wd.g rfl rfl rfl) rfl rfl (join_ct _ _ w0 H38 hl (few_flat (by omega) hll.1)) (fun v46 H46 r46 => ?_)
        obtain ⟨hj2, hs46⟩ := r46
        replace hl := hl.nw hs46
        replace hs := hs.tr hs46
        have hq46 := hqn38.tr hs46
        refine ⟨hq46, LH.narrow (SH2 := fun Hq => Nw H46 Hq) (fun Hq hq => hq46.tr hq) ?_⟩
        have hqn46 := Nw.refl H46
        refine LH.take 15 rfl (by kernel_rfl) (by kernel_rfl) (by kernel_rfl) (fun Hq hq => Y.bstr (hj2.rd.nw hq) rfl Try.underlying41 Try.underlying9 Try.underlying5 rfl) (Wd.g rfl rfl rfl) rfl rfl hqn46 ?_
        refine LH.one (i := 17) (by kernel_rfl) ?_
        -- call selvage/selvageref12.Join
        refine LO.call rfl rfl Try.call22 rfl (Wd.g rfl rfl rfl) rfl rfl (rjoin_ct _ _ w0 H46 hl (few_flat (by omega) hll.1)) (fun v49 H49 r49 => ?_)
        obtain ⟨hj3, hs49⟩ := r49
        replace hj2 := hj2.nw hs49
        replace hs := hs.tr hs49
        have hq49 := hqn46.tr hs49
        refine ⟨hq49, LH.narrow (SH2 := fun Hq => Nw H49 Hq) (fun Hq hq => hq49.tr hq) ?_⟩
        have hqn49 := Nw.refl H49
        refine LH.take 18 rfl (by kernel_rfl) (by kernel_rfl) (by kernel_rfl) (fun Hq hq => Y.bstr (hj3.rd.nw hq) rfl Try.underlying41 Try.underlying9 Try.underlying5 rfl) (Wd.g rfl rfl rfl) rfl rfl hqn49 ?_
        refine LH.take 19 rfl (by kernel_rfl) (by kernel_rfl) (by kernel_rfl) (fun Hq hq => (Y.seql rfl rfl rfl).isT (rfl)) (Wd.g rfl rfl rfl) rfl rfl hqn49 ?_
        refine LH.take 20 rfl (by kernel_rfl) (by kernel_rfl) (by kernel_rfl) (fun Hq hq => Y.pick_t rfl rfl rfl) (Wd.u rfl) rfl rfl hqn49 ?_
        refine LH.take 21 rfl (by kernel_rfl) (by kernel_rfl) (by kernel_rfl) (fun Hq hq => Y.assign rfl rfl) (Wd.u rfl) rfl rfl hqn49 ?_
        refine LH.done (by kernel_rfl) ?_
        have hqe := hqn49
        refine hK18 _ _ ?_
        refine CW.ret (hret .ret (.inr rfl) _ _ _ (res1 rfl rfl) ?_)
        exact ⟨rfl, hs⟩

end Go.Proofs.Ytkofoccjnoenlaa.LinN
