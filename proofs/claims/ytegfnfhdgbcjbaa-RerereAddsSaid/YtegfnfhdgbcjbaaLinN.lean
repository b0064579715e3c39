/-
  The contracts of the document that takes bytes to lines, and of LinesSplits.
-/
import Derived.Test.YtegfnfhdgbcjbaaLinL
namespace Go.Proofs.Ytegfnfhdgbcjbaa.LinN
open Go.Proofs.Ytegfnfhdgbcjbaa.E Go.RowKit Go.Proofs.Ytegfnfhdgbcjbaa.LinM Go.Proofs.Ytegfnfhdgbcjbaa.LinB Go.Proofs.Ytegfnfhdgbcjbaa.LinC Go.Proofs.Ytegfnfhdgbcjbaa.LinD Go.Proofs.Ytegfnfhdgbcjbaa.LinL
set_option maxRecDepth 20000
set_option linter.unusedVariables false
set_option linter.unusedSimpArgs false
set_option linter.unusedSectionVars false
set_option maxRecDepth 100000 in
theorem inf22 : Inf Try.prog 22 5 1 1 := ⟨Try.underlying22, _, _, rfl, rfl, rfl, rfl, rfl⟩
set_option maxRecDepth 100000 in
theorem inf32 : Inf Try.prog 32 9 1 16 := ⟨Try.underlying32, _, _, rfl, rfl, rfl, rfl, rfl⟩
theorem rsplit_ct (v : Value) (b : List UInt8) (w0 : World) (H0 : Heap)
    (hv : RdT H0 fB 1 v b) (hl : b.length ≤ 1048576) :
    Ct Try.prog w0 30 #[v] H0 (fun r H2 => Own (fun b => H0.size ≤ b) 9 H2 fS 1 r (splitL [] b) ∧ Nw H0 H2) := by
  refine Ct.enter (args := [v]) Try.func30 rfl rfl rfl ?_
  intro Q0 hret
  replace hv := hv.lt
  refine CW.seq (fun K1 hK1 hE1 => ?_)
  refine CW.region ?_
  refine LR.v (Y.assign rfl rfl) (Wd.u rfl) rfl rfl ?_
  refine LR.nil ?_
  refine hK1 _ _ ?_
  refine CW.seq (fun K2 hK2 hE2 => ?_)
  refine CW.region ?_
  refine LR.v (Y.assign rfl rfl) (Wd.u rfl) rfl rfl ?_
  refine LR.nil ?_
  refine hK2 _ _ ?_
  refine CW.seq (fun K3 hK3 hE3 => ?_)
  refine CW.region ?_
  refine LR.v (Y.assign rfl rfl) (Wd.u rfl) rfl rfl ?_
  refine LR.nil ?_
  refine hK3 _ _ ?_
  refine CW.seq (fun K4 hK4 hE4 => ?_)
  refine CW.seq (fun K5 hK5 hE5 => ?_)
  refine CW.region ?_
  refine LR.v (Y.assign rfl rfl) (Wd.u rfl) rfl rfl ?_
  refine LR.nil ?_
  refine hK5 _ _ ?_
  refine CW.block (fun K6 hK6 hX6 hE6 => ?_)
  refine CW.loop (fun (s_ : (Nat) × (Nat) × (Value) × (List (List UInt8))) => match s_ with | (i, f, vo, out) => [(0, v), (3, vo), (4, .int .i64 f), (5, .int .i64 i)])
    (fun (s_ : (Nat) × (Nat) × (Value) × (List (List UInt8))) (H : Heap) => match s_ with | (i, f, vo, out) => Nw H0 H ∧ Own (fun b => H0.size ≤ b) 9 H fS 1 vo out ∧ f ≤ i ∧ i ≤ b.length ∧ out.length ≤ i ∧ out ++ splitL ((b.take i).drop f) (b.drop i) = splitL [] b)
    (fun (s_ : (Nat) × (Nat) × (Value) × (List (List UInt8))) => match s_ with | (i, f, vo, out) => b.length - i) (0, 0, .slice none 0 0, []) ⟨rfl, rfl, rfl, rfl, trivial⟩ ?_ ?_
  ·
    exact ⟨Nw.refl _, Own.nil fS_len fS_one, by omega, by omega, by simp, by simp⟩
  rintro ⟨i, f, vo, out⟩ H1 hI1 K7 hN7 hE7
  obtain ⟨hs, ho, hf, hi, hol, hsp⟩ := hI1
  have hzz := hs.size
  have hv2 := hv.nw hs
  refine CW.seq (fun K8 hK8 hE8 => ?_)
  refine CW.seq (fun K9 hK9 hE9 => ?_)
  refine CW.region ?_
  refine LR.v (Y.move rfl rfl) (Wd.u rfl) rfl rfl ?_
  refine LR.v (Y.move rfl rfl) (Wd.u rfl) rfl rfl ?_
  refine LR.v (Y.len hv2 rfl Try.runUnderlying22 rfl) (Wd.u rfl) rfl rfl ?_
  refine LR.v (Y.lss rfl rfl rfl) (Wd.u rfl) rfl rfl ?_
  refine LR.nil ?_
  refine hK9 _ _ ?_
  refine CW.condp rfl (fun c9 => ?_) (fun c9 => ?_)
  ·
    rw [List.drop_eq_getElem_cons (show i < b.length by omega), splitL] at hsp
    refine CW.skip ?_
    refine hK8 _ _ ?_
    refine CW.seq (fun K10 hK10 hE10 => ?_)
    refine CW.block (fun K11 hK11 hX11 hE11 => ?_)
    refine CW.seq (fun K12 hK12 hE12 => ?_)
    refine CW.region ?_
    refine LR.v (Y.move rfl rfl) (Wd.u rfl) rfl rfl ?_
    refine LR.v (Y.move rfl rfl) (Wd.u rfl) rfl rfl ?_
    refine LR.e (g := fun ad => .pointer (some ad)) (Y.indexAddr hv2 (i) rfl Try.runUnderlying22 Try.sizeOf5 rfl rfl (by first | rfl | omega) (by first | omega | (simp; omega) | (simp; done))) (Wd.u rfl) rfl rfl (fun ad14 pt14 => ?_)
    refine LR.v (Y.load1 pt14 rfl Try.isAgg5 rfl) (Wd.u rfl) rfl rfl ?_
    refine LR.v (Y.eql rfl rfl rfl) (Wd.u rfl) rfl rfl ?_
    refine LR.nil ?_
    refine hK12 _ _ ?_
    refine CW.condp rfl (fun c16 => ?_) (fun c16 => ?_)
    ·
      have hb10 : b[i] = 10 := by apply UInt8.toNat_inj.1; have := c16; simp at this ⊢; omega
      rw [if_pos hb10, ← take_snoc b f i hf (by omega)] at hsp
      refine CW.seq (fun K13 hK13 hE13 => ?_)
      refine CW.region ?_
      refine LR.v (Y.move rfl rfl) (Wd.u rfl) rfl rfl ?_
      refine LR.v (Y.move rfl rfl) (Wd.u rfl) rfl rfl ?_
      refine LR.v (Y.move rfl rfl) (Wd.u rfl) rfl rfl ?_
      refine LR.v (Y.move rfl rfl) (Wd.u rfl) rfl rfl ?_
      refine LR.v (Y.addi rfl rfl rfl (by omega)) (Wd.u rfl) rfl rfl ?_
      refine LR.e (g := fun v => v) (Y.slice hv2 (f) (i + 1) rfl Try.runUnderlying22 Try.sizeOf5 rfl (.inr ⟨_, _, _, rfl, rfl, by first | rfl | omega⟩) (.inr ⟨_, _, _, rfl, rfl, by first | rfl | omega⟩) (by omega) (by omega)) (Wd.u rfl) rfl rfl (fun v22 rd22 => ?_)
      refine LR.v (Y.bstr rd22 rfl Try.underlying22 Try.underlying9 Try.underlying5 rfl) (Wd.u rfl) rfl rfl ?_
      refine LR.z (Z.lit _ ([(b.take (i + 1)).drop f]) rfl inf32 rfl rfl rfl (by decide) (by decide) fS_len fS_one (rfl)) (Wd.u rfl) rfl rfl (fun v24 H24 r24 => ?_)
      obtain ⟨hl24, hs24, -⟩ := r24
      replace hv2 := hv2.nw hs24
      replace ho := ho.nw hs24
      replace hs := hs.tr hs24
      have hz24 := hs24.size
      refine LR.z (Z.append ho hl24.rd rfl inf32 rfl rfl (by simp; omega) (by simp; omega)) (Wd.u rfl) rfl rfl (fun v25 H25 r25 => ?_)
      obtain ⟨ho, hs25⟩ := r25
      replace hv2 := hv2.up hs25 (fun b _ h1 h2 => by omega)
      replace hs := hs.trans hs25 (fun _ _ e => e) (fun b hb e => by omega)
      have hz25 := hs25.size
      refine LR.v (Y.assign rfl rfl) (Wd.u rfl) rfl rfl ?_
      refine LR.nil ?_
      refine hK13 _ _ ?_
      refine CW.region ?_
      refine LR.v (Y.move rfl rfl) (Wd.u rfl) rfl rfl ?_
      refine LR.v (Y.addi rfl rfl rfl (by omega)) (Wd.u rfl) rfl rfl ?_
      refine LR.v (Y.assign rfl rfl) (Wd.u rfl) rfl rfl ?_
      refine LR.nil ?_
      refine hK11 _ _ ?_
      refine hK10 _ _ ?_
      refine CW.region ?_
      refine LR.v (Y.move rfl rfl) (Wd.u rfl) rfl rfl ?_
      refine LR.v (Y.addi rfl rfl rfl (by omega)) (Wd.u rfl) rfl rfl ?_
      refine LR.v (Y.assign rfl rfl) (Wd.u rfl) rfl rfl ?_
      refine LR.nil ?_
      refine QN.sub (hN7 (i + 1, i + 1, v25, out ++ [(b.take (i + 1)).drop f]) _ ?_ ?_) ⟨rfl, rfl, (iv (by omega)), (iv (by omega)), trivial⟩
      · exact ⟨hs, ho.imp (fun b _ e => by omega), by omega, by omega, by simp; omega, by rw [← hsp]; simp⟩
      · show b.length - (i + 1) < b.length - i; omega
    ·
      have hb10 : ¬ b[i] = 10 := by intro e; apply c16; rw [e]; rfl
      rw [if_neg hb10, ← take_snoc b f i hf (by omega)] at hsp
      refine CW.skip ?_
      refine hK11 _ _ ?_
      refine hK10 _ _ ?_
      refine CW.region ?_
      refine LR.v (Y.move rfl rfl) (Wd.u rfl) rfl rfl ?_
      refine LR.v (Y.addi rfl rfl rfl (by omega)) (Wd.u rfl) rfl rfl ?_
      refine LR.v (Y.assign rfl rfl) (Wd.u rfl) rfl rfl ?_
      refine LR.nil ?_
      refine QN.sub (hN7 (i + 1, f, vo, out) _ ?_ ?_) ⟨rfl, rfl, (iv (by omega)), (iv (by omega)), trivial⟩
      · exact ⟨hs, ho, by omega, by omega, by omega, hsp⟩
      · show b.length - (i + 1) < b.length - i; omega
  ·
    rw [List.take_of_length_le (show b.length ≤ i by omega), List.drop_of_length_le (show b.length ≤ i by omega), splitL] at hsp
    refine CW.exit (hE8 (.exit 0) nofun _ _ (hE7 (.exit 0) nofun _ _ (hX6 _ _ ?_)))
    refine hK4 _ _ ?_
    refine CW.seq (fun K14 hK14 hE14 => ?_)
    refine CW.seq (fun K15 hK15 hE15 => ?_)
    refine CW.region ?_
    refine LR.v (Y.move rfl rfl) (Wd.u rfl) rfl rfl ?_
    refine LR.v (Y.move rfl rfl) (Wd.u rfl) rfl rfl ?_
    refine LR.v (Y.len hv2 rfl Try.runUnderlying22 rfl) (Wd.u rfl) rfl rfl ?_
    refine LR.v (Y.lss rfl rfl rfl) (Wd.u rfl) rfl rfl ?_
    refine LR.nil ?_
    refine hK15 _ _ ?_
    refine CW.condp rfl (fun c31 => ?_) (fun c31 => ?_)
    ·
      rw [if_neg (by intro e; rw [List.drop_eq_nil_iff] at e; omega)] at hsp
      refine CW.region ?_
      refine LR.v (Y.move rfl rfl) (Wd.u rfl) rfl rfl ?_
      refine LR.v (Y.move rfl rfl) (Wd.u rfl) rfl rfl ?_
      refine LR.v (Y.move rfl rfl) (Wd.u rfl) rfl rfl ?_
      refine LR.e (g := fun v => v) (Y.slice hv2 (f) (_) rfl Try.runUnderlying22 Try.sizeOf5 rfl (.inr ⟨_, _, _, rfl, rfl, by first | rfl | omega⟩) (.inl ⟨rfl, rfl⟩) (by omega) (by omega)) (Wd.u rfl) rfl rfl (fun v35 rd35 => ?_)
      refine LR.v (Y.bstr rd35 rfl Try.underlying22 Try.underlying9 Try.underlying5 rfl) (Wd.u rfl) rfl rfl ?_
      refine LR.z (Z.lit _ ([(b.take b.length).drop f]) rfl inf32 rfl rfl rfl (by decide) (by decide) fS_len fS_one (rfl)) (Wd.u rfl) rfl rfl (fun v37 H37 r37 => ?_)
      obtain ⟨hl37, hs37, -⟩ := r37
      replace hv2 := hv2.nw hs37
      replace ho := ho.nw hs37
      replace hs := hs.tr hs37
      have hz37 := hs37.size
      refine LR.z (Z.append ho hl37.rd rfl inf32 rfl rfl (by simp; omega) (by simp; omega)) (Wd.u rfl) rfl rfl (fun v38 H38 r38 => ?_)
      obtain ⟨ho, hs38⟩ := r38
      replace hv2 := hv2.up hs38 (fun b _ h1 h2 => by omega)
      replace hs := hs.trans hs38 (fun _ _ e => e) (fun b hb e => by omega)
      have hz38 := hs38.size
      refine LR.v (Y.assign rfl rfl) (Wd.u rfl) rfl rfl ?_
      refine LR.nil ?_
      refine hK14 _ _ ?_
      refine CW.seq (fun K16 hK16 hE16 => ?_)
      refine CW.region ?_
      refine LR.v (Y.move rfl rfl) (Wd.u rfl) rfl rfl ?_
      refine LR.v (Y.assign rfl rfl) (Wd.u rfl) rfl rfl ?_
      refine LR.nil ?_
      refine hK16 _ _ ?_
      refine CW.ret (hret .ret (.inr rfl) _ _ _ (res1 rfl rfl) ?_)
      rw [← hsp]
      rw [List.take_length] at ho
      exact ⟨ho.imp (fun b _ e => by omega), hs⟩
    ·
      rw [if_pos (by rw [List.drop_eq_nil_iff]; omega), List.append_nil] at hsp
      refine CW.skip ?_
      refine hK14 _ _ ?_
      refine CW.seq (fun K17 hK17 hE17 => ?_)
      refine CW.region ?_
      refine LR.v (Y.move rfl rfl) (Wd.u rfl) rfl rfl ?_
      refine LR.v (Y.assign rfl rfl) (Wd.u rfl) rfl rfl ?_
      refine LR.nil ?_
      refine hK17 _ _ ?_
      refine CW.ret (hret .ret (.inr rfl) _ _ _ (res1 rfl rfl) ?_)
      rw [← hsp]
      exact ⟨ho, hs⟩

theorem join_ct (v : Value) (l : List (List UInt8)) (w0 : World) (H0 : Heap)
    (hv : RdT H0 fS 1 v l) (hl : l.flatten.length ≤ 1073741824) :
    Ct Try.prog w0 24 #[v] H0 (fun r H2 => Own (fun b => H0.size ≤ b) 5 H2 fB 1 r l.flatten ∧ Nw H0 H2) := by
  refine Ct.enter (args := [v]) Try.func24 rfl rfl rfl ?_
  intro Q0 hret
  have hvl := hv.len
  replace hv := hv.lt
  refine CW.seq (fun K1 hK1 hE1 => ?_)
  refine CW.region ?_
  refine LR.v (Y.assign rfl rfl) (Wd.u rfl) rfl rfl ?_
  refine LR.nil ?_
  refine hK1 _ _ ?_
  refine CW.seq (fun K2 hK2 hE2 => ?_)
  refine CW.region ?_
  refine LR.v (Y.assign rfl rfl) (Wd.u rfl) rfl rfl ?_
  refine LR.nil ?_
  refine hK2 _ _ ?_
  refine CW.seq (fun K3 hK3 hE3 => ?_)
  refine CW.seq (fun K4 hK4 hE4 => ?_)
  refine CW.region ?_
  refine LR.v (Y.move rfl rfl) (Wd.u rfl) rfl rfl ?_
  refine LR.v (Y.len hv rfl Try.runUnderlying32 rfl) (Wd.u rfl) rfl rfl ?_
  refine LR.v (Y.move rfl rfl) (Wd.u rfl) rfl rfl ?_
  refine LR.nil ?_
  refine hK4 _ _ ?_
  refine CW.block (fun K5 hK5 hX5 hE5 => ?_)
  refine CW.loop (fun (s_ : (Nat) × (Value)) => match s_ with | (k, vo) => [(3, vo), (6, v), (7, .int .i64 l.length), (8, .int .i64 k)])
    (fun (s_ : (Nat) × (Value)) (H : Heap) => match s_ with | (k, vo) => Nw H0 H ∧ Own (fun b => H0.size ≤ b) 5 H fB 1 vo (l.take k).flatten ∧ k ≤ l.length)
    (fun (s_ : (Nat) × (Value)) => match s_ with | (k, vo) => l.length - k) (0, .slice none 0 0) ⟨rfl, rfl, rfl, rfl, trivial⟩ ?_ ?_
  ·
    exact ⟨Nw.refl _, Own.nil fB_len fB_one, by omega⟩
  rintro ⟨k, vo⟩ H1 hI1 K6 hN6 hE6
  obtain ⟨hs, ho, hk⟩ := hI1
  have hzz := hs.size
  have hv2 := hv.nw hs
  have hfl := flatten_take_le l k
  refine CW.seq (fun K7 hK7 hE7 => ?_)
  refine CW.region ?_
  refine LR.v (Y.lss rfl rfl rfl) (Wd.u rfl) rfl rfl ?_
  refine LR.nil ?_
  refine hK7 _ _ ?_
  refine CW.seq (fun K8 hK8 hE8 => ?_)
  refine CW.condp rfl (fun c9 => ?_) (fun c9 => ?_)
  ·
    refine CW.skip ?_
    refine hK8 _ _ ?_
    refine CW.seq (fun K9 hK9 hE9 => ?_)
    refine CW.block (fun K10 hK10 hX10 hE10 => ?_)
    refine CW.seq (fun K11 hK11 hE11 => ?_)
    refine CW.region ?_
    refine LR.e (g := fun ad => .pointer (some ad)) (Y.indexAddr hv2 (k) rfl Try.runUnderlying32 Try.sizeOf9 rfl rfl (by first | rfl | omega) (by first | omega | (simp; omega) | (simp; done))) (Wd.u rfl) rfl rfl (fun ad10 pt10 => ?_)
    refine LR.v (Y.load1 pt10 rfl Try.isAgg9 rfl) (Wd.u rfl) rfl rfl ?_
    refine LR.v (Y.assign rfl rfl) (Wd.u rfl) rfl rfl ?_
    refine LR.nil ?_
    refine hK11 _ _ ?_
    refine CW.region ?_
    refine LR.v (Y.move rfl rfl) (Wd.u rfl) rfl rfl ?_
    refine LR.v (Y.move rfl rfl) (Wd.u rfl) rfl rfl ?_
    have hft := flatten_take l k (by omega)
    have hfl2 := flatten_take_le l (k + 1)
    rw [hft, List.length_append] at hfl2
    refine LR.z (Z.appendStr ho rfl inf22 Try.underlying9 rfl rfl (by omega)) (Wd.u rfl) rfl rfl (fun v14 H14 r14 => ?_)
    obtain ⟨ho, hs2⟩ := r14
    replace hs := hs.trans hs2 (fun _ _ e => e) (fun b hb e => by omega)
    refine LR.v (Y.assign rfl rfl) (Wd.u rfl) rfl rfl ?_
    refine LR.nil ?_
    refine hK10 _ _ ?_
    refine hK9 _ _ ?_
    refine CW.region ?_
    refine LR.v (Y.addi rfl rfl rfl (by omega)) (Wd.u rfl) rfl rfl ?_
    refine LR.v (Y.move rfl rfl) (Wd.u rfl) rfl rfl ?_
    refine LR.nil ?_
    refine QN.sub (hN6 (k + 1, v14) _ ?_ ?_) ⟨rfl, rfl, (iv (by omega)), (iv (by omega)), trivial⟩
    · exact ⟨hs, by rw [hft]; exact ho.imp (fun b _ e => by omega), by omega⟩
    · show l.length - (k + 1) < l.length - k; omega
  ·
    refine CW.exit (hE8 (.exit 0) nofun _ _ (hE6 (.exit 0) nofun _ _ (hX5 _ _ ?_)))
    refine hK3 _ _ ?_
    refine CW.seq (fun K12 hK12 hE12 => ?_)
    refine CW.region ?_
    refine LR.v (Y.move rfl rfl) (Wd.u rfl) rfl rfl ?_
    refine LR.v (Y.assign rfl rfl) (Wd.u rfl) rfl rfl ?_
    refine LR.nil ?_
    refine hK12 _ _ ?_
    refine CW.ret (hret .ret (.inr rfl) _ _ _ (res1 rfl rfl) ?_)
    rw [List.take_of_length_le (by omega)] at ho
    exact ⟨ho, hs⟩

end Go.Proofs.Ytegfnfhdgbcjbaa.LinN
