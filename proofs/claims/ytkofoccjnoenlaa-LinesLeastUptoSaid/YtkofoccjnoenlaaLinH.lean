/-
  The contract of LinesLeast.
-/
import Derived.Test.YtkofoccjnoenlaaLinG
namespace Go.Proofs.Ytkofoccjnoenlaa.LinH
open Go.Proofs.Ytkofoccjnoenlaa.E Go.RowKit Go.Proofs.Ytkofoccjnoenlaa.LinM Go.Proofs.Ytkofoccjnoenlaa.LinA Go.Proofs.Ytkofoccjnoenlaa.LinB Go.Proofs.Ytkofoccjnoenlaa.LinC Go.Proofs.Ytkofoccjnoenlaa.LinD Go.Proofs.Ytkofoccjnoenlaa.LinE Go.Proofs.Ytkofoccjnoenlaa.LinF Go.Proofs.Ytkofoccjnoenlaa.LinG
set_option linter.unusedVariables false
set_option linter.unusedSimpArgs false
set_option linter.unusedSectionVars false
theorem inf22 : Inf Try.prog 22 9 1 16 := ⟨Try.underlying22, _, _, rfl, rfl, rfl, rfl, rfl⟩

section
variable {α : Type} [DecidableEq α]
theorem len_W (a b : List α) : (W a b).length + lcs a b = a.length + b.length := by
  have h1 := sides_W _ a b (Nat.le_refl _)
  have h2 := count_W _ a b (Nat.le_refl _)
  have h3 : ∀ l : List Int, (∀ o ∈ l, o = 0 ∨ o = 1 ∨ o = 2) → l.length = l.count 0 + l.count 1 + l.count 2 := by
    intro l
    induction l with
    | nil => intro _; rfl
    | cons o l ih =>
      intro h
      have := ih (fun o ho => h o (by simp [ho]))
      have h4 := h o (by simp)
      simp only [List.length_cons, List.count_cons]
      rcases h4 with rfl | rfl | rfl <;> simp <;> omega
  have := h3 _ (W_mem _ a b (Nat.le_refl _)).2
  omega
theorem W_self : ∀ (a : List α), W a a = List.replicate a.length 0
  | [] => W_nil
  | x :: a => by rw [W_same, W_self a]; rfl
theorem script_self (a : List α) : (script a a).length = min 1 a.length := by
  unfold script
  rw [W_self]
  have : ∀ n, runs (List.replicate (n + 1) 0) = [(0, ((n + 1 : Nat) : Int))] := by
    intro n
    induction n with
    | zero => decide
    | succ n ih =>
      rw [List.replicate_succ', runs_snoc, ih]
      have := addE_concat [] 0 ((n + 1 : Nat) : Int) 0
      simp only [List.nil_append, if_true] at this
      rw [this]; simp
  cases h : a.length with
  | zero => rfl
  | succ n => rw [this n]; simp
end
theorem drop_take_len {α : Type} (l : List α) (k : Nat) : (l.take l.length).drop k = l.drop k := by rw [List.take_length]

set_option maxHeartbeats 2000000 in
theorem linesLeast_ct (va vx vp : Value) (a : List (List UInt8)) (xs : List Int) (ps : List (List UInt8)) (w0 : World) (H0 : Heap)
    (ha : RdT H0 fS 1 va a) (hx : RdT H0 fI 1 vx xs) (hp : RdT H0 fS 1 vp ps) (hla : (∀ s ∈ a, s.length ≤ 1048576) ∧ a.length ≤ 1048576) (hlp : (∀ s ∈ ps, s.length ≤ 1048576) ∧ ps.length ≤ 1048576) :
    Ct Try.prog w0 4 #[va, vx, vp] H0 (fun r H2 => r = .bool true ∧ Nw H0 H2) := by
  refine Ct.enter (args := [va, vx, vp]) Try.func4 rfl rfl rfl ?_
  intro Q0 hret
  replace ha := ha.lt
  replace hx := hx.lt
  replace hp := hp.lt
  have hxl := hx.len
  refine CW.seq (fun K1 hK1 hE1 => ?_)
  refine CW.region ?_
  refine LR.v (Y.assign rfl rfl) (Wd.u rfl) rfl rfl ?_
  refine LR.nil ?_
  refine hK1 _ _ ?_
  refine CW.seq (fun K2 hK2 hE2 => ?_)
  refine CW.seq (fun K3 hK3 hE3 => ?_)
  refine CW.region ?_
  -- call selvage/selvagelaw12.known
  refine LR.call rfl Try.call10 rfl (Wd.u rfl) rfl rfl (known_ct w0 H0) (fun v19 H19 r19 => ?_)
  obtain ⟨rfl, hs⟩ := r19
  replace ha := ha.nw hs
  replace hx := hx.nw hs
  replace hp := hp.nw hs
  have hz19 := hs.size
  refine LR.v (Y.not rfl rfl) (Wd.u rfl) rfl rfl ?_
  refine LR.nil ?_
  refine hK3 _ _ ?_
  refine CW.cond_f rfl ?_
  refine CW.skip ?_
  refine hK2 _ _ ?_
  refine CW.seq (fun K4 hK4 hE4 => ?_)
  refine CW.seq (fun K5 hK5 hE5 => ?_)
  refine CW.region ?_
  refine LR.v (Y.move rfl rfl) (Wd.u rfl) rfl rfl ?_
  -- call selvage/selvagelaw12.Few
  refine LR.call rfl Try.call11 rfl (Wd.u rfl) rfl rfl (few_ct _ _ w0 H19 ha.any hla.1 hla.2) (fun v22 H22 r22 => ?_)
  obtain ⟨rfl, rfl⟩ := r22
  refine LR.v (Y.notp rfl rfl) (Wd.u rfl) rfl rfl ?_
  refine LR.v (Y.move rfl rfl) (Wd.u rfl) rfl rfl ?_
  refine LR.splitp (d := 24) rfl (fun g24 => ?_) (fun g24 => ?_)
  ·
    refine LR.gs rfl rfl rfl rfl rfl rfl ?_
    refine LR.gs rfl rfl rfl rfl rfl rfl ?_
    refine LR.gs rfl rfl rfl rfl rfl rfl ?_
    refine LR.v (Y.pick_t rfl rfl rfl) (Wd.u rfl) rfl rfl ?_
    refine LR.nil ?_
    refine hK5 _ _ ?_
    refine CW.cond_t rfl ?_
    refine CW.seq (fun K6 hK6 hE6 => ?_)
    refine CW.region ?_
    refine LR.v (Y.assign rfl rfl) (Wd.u rfl) rfl rfl ?_
    refine LR.nil ?_
    refine hK6 _ _ ?_
    refine CW.ret (hE4 .ret nofun _ _ (hret .ret (.inr rfl) _ _ _ (res1 rfl rfl) ?_))
    exact ⟨rfl, hs⟩
  ·
    refine LR.v (Y.move rfl rfl) (Wd.g rfl rfl rfl) rfl rfl ?_
    -- call selvage/selvagelaw12.Few
    refine LR.call rfl Try.call11 rfl (Wd.g rfl rfl rfl) rfl rfl (few_ct _ _ w0 H22 hp.any hlp.1 hlp.2) (fun v26 H26 r26 => ?_)
    obtain ⟨rfl, rfl⟩ := r26
    refine LR.v (Y.notp rfl rfl) (Wd.g rfl rfl rfl) rfl rfl ?_
    refine LR.v (Y.pick_f rfl rfl rfl) (Wd.u rfl) rfl rfl ?_
    refine LR.nil ?_
    refine hK5 _ _ ?_
    refine CW.condp rfl (fun c28 => ?_) (fun c28 => ?_)
    ·
      refine CW.seq (fun K7 hK7 hE7 => ?_)
      refine CW.region ?_
      refine LR.v (Y.assign rfl rfl) (Wd.u rfl) rfl rfl ?_
      refine LR.nil ?_
      refine hK7 _ _ ?_
      refine CW.ret (hE4 .ret nofun _ _ (hret .ret (.inr rfl) _ _ _ (res1 rfl rfl) ?_))
      exact ⟨rfl, hs⟩
    ·
      have hfa := (Decidable.not_not.1 g24).len
      have hfp := (Decidable.not_not.1 c28).len
      refine CW.skip ?_
      refine hK4 _ _ ?_
      refine CW.seq (fun K8 hK8 hE8 => ?_)
      refine CW.region ?_
      refine LR.z (Z.lit _ (([] : List (List UInt8))) rfl inf22 rfl rfl rfl (by decide) (by decide) fS_len fS_one rfl) (Wd.u rfl) rfl rfl (fun v29 H29 r29 => ?_)
      obtain ⟨ho, hs29, ob29, hH29⟩ := r29
      replace ha := ha.nw hs29
      replace hx := hx.nw hs29
      replace hp := hp.nw hs29
      replace hs := hs.tr hs29
      have hz29 : H29.size = H26.size + 1 := by rw [hH29]; simp
      refine LR.v (Y.move rfl rfl) (Wd.u rfl) rfl rfl ?_
      refine LR.z (Z.append ho ha rfl inf22 rfl rfl (by simp; omega) (by simp; omega)) (Wd.u rfl) rfl rfl (fun v31 H31 r31 => ?_)
      obtain ⟨ho, hs31⟩ := r31
      replace ha := (ha.up hs31 (fun b _ h1 h2 => by omega)).any
      replace hx := (hx.up hs31 (fun b _ h1 h2 => by omega)).any
      replace hp := (hp.up hs31 (fun b _ h1 h2 => by omega)).any
      replace hs := hs.trans hs31 (fun _ _ e => e) (fun b hb e => (by omega : False))
      have hz31 := hs31.size
      replace ho := ho.rd.imp (F' := fun b => H0.size ≤ b) (fun b _ e => by omega)
      refine LR.v (Y.assign rfl rfl) (Wd.u rfl) rfl rfl ?_
      refine LR.nil ?_
      refine hK8 _ _ ?_
      refine CW.seq (fun K9 hK9 hE9 => ?_)
      refine CW.region ?_
      refine LR.v (Y.assign rfl rfl) (Wd.u rfl) rfl rfl ?_
      refine LR.nil ?_
      refine hK9 _ _ ?_
      refine CW.cut (fun (s : (Value) × (List (List UInt8)) × (Nat)) => match s with | (vl, bl, c) => [(0, va), (7, vl), (8, .int .i64 c)])
        (fun (s : (Value) × (List (List UInt8)) × (Nat)) (H : Heap) => match s with | (vl, bl, c) => Nw H31 H ∧ Nw H0 H ∧ Rd (fun b => H0.size ≤ b) H fS 1 vl bl ∧ a.length + bl.length ≤ c + 2 * lcs a bl ∧ bl.length ≤ a.length + 8 ∧ c ≤ 8) (fun K10 hK10 hE10 => ?_) ?_
      ·
        refine CW.seq (fun K11 hK11 hE11 => ?_)
        refine CW.region ?_
        refine LR.v (Y.assign rfl rfl) (Wd.u rfl) rfl rfl ?_
        refine LR.nil ?_
        refine hK11 _ _ ?_
        refine CW.block (fun K12 hK12 hX12 hE12 => ?_)
        refine CW.loop (fun (s : (Nat) × (Value) × (List (List UInt8)) × (Nat)) => match s with | (i, vl, bl, c) => [(0, va), (1, vx), (2, vp), (7, vl), (8, .int .i64 c), (9, .int .i64 i)])
          (fun (s : (Nat) × (Value) × (List (List UInt8)) × (Nat)) (H : Heap) => match s with | (i, vl, bl, c) => Nw H31 H ∧ Nw H0 H ∧ Rd (fun b => H0.size ≤ b) H fS 1 vl bl ∧ a.length + bl.length ≤ c + 2 * lcs a bl ∧ bl.length ≤ a.length + i ∧ c ≤ i ∧ i ≤ 8 ∧ i ≤ xs.length)
          (fun (s : (Nat) × (Value) × (List (List UInt8)) × (Nat)) => match s with | (i, vl, bl, c) => 8 - i) (0, v31, a, 0) ⟨rfl, rfl, rfl, rfl, rfl, rfl, trivial⟩ ?_ ?_
        ·
          exact ⟨Nw.refl _, hs, by simpa using ho, by rw [lcs_self]; omega, by omega, by omega, by omega, by omega⟩
        rintro ⟨i, vl, bl, c⟩ H1 hI1 K13 hN13 hE13
        obtain ⟨hN, hs, hb, hle, hbl, hc, hi, hix⟩ := hI1
        have ha2 := ha.nw hN
        have hx2 := hx.nw hN
        have hp2 := hp.nw hN
        have hb2 := hb.lt
        have hz := hs.size
        -- WARN live slots not in fl: [37, 38, 55, 56, 57, 58, 59, 60]
        refine CW.seq (fun K14 hK14 hE14 => ?_)
        refine CW.seq (fun K15 hK15 hE15 => ?_)
        refine CW.region ?_
        refine LR.v (Y.move rfl rfl) (Wd.u rfl) rfl rfl ?_
        refine LR.v (Y.move rfl rfl) (Wd.u rfl) rfl rfl ?_
        refine LR.v (Y.len hx2 rfl Try.runUnderlying33 rfl) (Wd.u rfl) rfl rfl ?_
        refine LR.v (Y.lss rfl rfl rfl) (Wd.u rfl) rfl rfl ?_
        refine LR.v (Y.move rfl rfl) (Wd.u rfl) rfl rfl ?_
        refine LR.splitp (d := 36) rfl (fun g36 => ?_) (fun g36 => ?_)
        ·
          refine LR.v (Y.move rfl rfl) (Wd.g rfl rfl rfl) rfl rfl ?_
          refine LR.v (Y.lss rfl rfl rfl) (Wd.g rfl rfl rfl) rfl rfl ?_
          refine LR.v (Y.pick_t rfl rfl rfl) (Wd.u rfl) rfl rfl ?_
          refine LR.nil ?_
          refine hK15 _ _ ?_
          refine CW.condp rfl (fun c39 => ?_) (fun c39 => ?_)
          ·
            refine CW.skip ?_
            refine hK14 _ _ ?_
            refine CW.seq (fun K16 hK16 hE16 => ?_)
            refine CW.block (fun K17 hK17 hX17 hE17 => ?_)
            refine CW.seq (fun K18 hK18 hE18 => ?_)
            refine CW.region ?_
            refine LR.v (Y.move rfl rfl) (Wd.u rfl) rfl rfl ?_
            refine LR.v (Y.move rfl rfl) (Wd.u rfl) rfl rfl ?_
            refine LR.e (g := fun ad => .pointer (some ad)) (Y.indexAddr hx2 (i) rfl Try.runUnderlying33 Try.sizeOf3 rfl rfl (by first | rfl | omega) (by omega)) (Wd.u rfl) rfl rfl (fun ad44 pt44 => ?_)
            refine LR.v (Y.load1 pt44 rfl Try.isAgg3 rfl) (Wd.u rfl) rfl rfl ?_
            refine LR.v (Y.move rfl rfl) (Wd.u rfl) rfl rfl ?_
            refine LR.v (Y.len hb2 rfl Try.runUnderlying22 rfl) (Wd.u rfl) rfl rfl ?_
            refine LR.v (Y.addi rfl rfl rfl (by omega)) (Wd.u rfl) rfl rfl ?_
            -- call selvage/selvagelaw12.within
            refine LR.call rfl Try.call16 rfl (Wd.u rfl) rfl rfl (within_ct _ _ w0 H1 (by omega) (by omega)) (fun v49 H49 r49 => ?_)
            obtain ⟨rfl, rfl⟩ := r49
            have hk1 := Int.emod_nonneg xs[i] (show ((bl.length : Int) + 1) ≠ 0 by omega)
            have hk2 := Int.emod_lt_of_pos xs[i] (show (0 : Int) < (bl.length : Int) + 1 by omega)
            obtain ⟨k, hk⟩ : ∃ k : Nat, xs[i] % ((bl.length : Int) + 1) = k := ⟨(xs[i] % ((bl.length : Int) + 1)).toNat, by omega⟩
            rw [hk]
            refine LR.v (Y.assign rfl rfl) (Wd.u rfl) rfl rfl ?_
            refine LR.nil ?_
            refine hK18 _ _ ?_
            refine CW.seq (fun K19 hK19 hE19 => ?_)
            refine CW.region ?_
            refine LR.v (Y.move rfl rfl) (Wd.u rfl) rfl rfl ?_
            refine LR.v (Y.move rfl rfl) (Wd.u rfl) rfl rfl ?_
            refine LR.v (Y.len hp2 rfl Try.runUnderlying22 rfl) (Wd.u rfl) rfl rfl ?_
            refine LR.v (Y.lss rfl rfl rfl) (Wd.u rfl) rfl rfl ?_
            refine LR.v (Y.move rfl rfl) (Wd.u rfl) rfl rfl ?_
            refine LR.splitp (d := 54) rfl (fun g54 => ?_) (fun g54 => ?_)
            ·
              refine LR.v (Y.move rfl rfl) (Wd.g rfl rfl rfl) rfl rfl ?_
              refine LR.v (Y.move rfl rfl) (Wd.g rfl rfl rfl) rfl rfl ?_
              refine LR.e (g := fun ad => .pointer (some ad)) (Y.indexAddr hx2 (i) rfl Try.runUnderlying33 Try.sizeOf3 rfl rfl (by first | rfl | omega) (by omega)) (Wd.g rfl rfl rfl) rfl rfl (fun ad57 pt57 => ?_)
              refine LR.v (Y.load1 pt57 rfl Try.isAgg3 rfl) (Wd.g rfl rfl rfl) rfl rfl ?_
              refine LR.v (Y.rem rfl rfl rfl (by omega)) (Wd.g rfl rfl rfl) rfl rfl ?_
              refine LR.v (Y.eql rfl rfl rfl) (Wd.g rfl rfl rfl) rfl rfl ?_
              refine LR.v (Y.pick_t rfl rfl rfl) (Wd.u rfl) rfl rfl ?_
              refine LR.nil ?_
              refine hK19 _ _ ?_
              refine CW.condp rfl (fun c61 => ?_) (fun c61 => ?_)
              ·
                refine CW.seq (fun K20 hK20 hE20 => ?_)
                refine CW.region ?_
                refine LR.v (Y.assign rfl rfl) (Wd.u rfl) rfl rfl ?_
                refine LR.nil ?_
                refine hK20 _ _ ?_
                refine CW.seq (fun K21 hK21 hE21 => ?_)
                refine CW.region_any (fun Hq => Nw H49 Hq) rfl ?_
                have hqs := Nw.refl H49
                refine LH.take 0 rfl (by kernel_rfl) (by kernel_rfl) (by kernel_rfl) (fun Hq hq => Y.move rfl rfl) (Wd.u rfl) rfl rfl hqs ?_
                refine LH.take 1 rfl (by kernel_rfl) (by kernel_rfl) (by kernel_rfl) (fun Hq hq => Y.move rfl rfl) (Wd.u rfl) rfl rfl hqs ?_
                refine LH.take 2 rfl (by kernel_rfl) (by kernel_rfl) (by kernel_rfl) (fun Hq hq => Y.move rfl rfl) (Wd.u rfl) rfl rfl hqs ?_
                refine LH.e (g := fun v => v) 3 rfl (by kernel_rfl) (by kernel_rfl) (by kernel_rfl) (Y.slice hb2 (0) (k) rfl Try.runUnderlying22 Try.sizeOf9 rfl (.inl ⟨rfl, rfl⟩) (.inr ⟨_, _, _, rfl, rfl, by first | rfl | omega⟩) (by omega) (by omega)) (Wd.u rfl) rfl rfl hqs (fun v65 rd65 => ?_)
                refine LH.take 5 rfl (by kernel_rfl) (by kernel_rfl) (by kernel_rfl) (fun Hq hq => Y.move rfl rfl) (Wd.u rfl) rfl rfl hqs ?_
                refine LH.take 6 rfl (by kernel_rfl) (by kernel_rfl) (by kernel_rfl) (fun Hq hq => Y.move rfl rfl) (Wd.u rfl) rfl rfl hqs ?_
                refine LH.e (g := fun ad => .pointer (some ad)) 7 rfl (by kernel_rfl) (by kernel_rfl) (by kernel_rfl) (Y.indexAddr hp2 (i) rfl Try.runUnderlying22 Try.sizeOf9 rfl rfl (by first | rfl | omega) (by omega)) (Wd.u rfl) rfl rfl hqs (fun ad69 pt69 => ?_)
                refine LH.take 8 rfl (by kernel_rfl) (by kernel_rfl) (by kernel_rfl) (fun Hq hq => Y.load1 (pt69.nw hq) rfl Try.isAgg9 rfl) (Wd.u rfl) rfl rfl hqs ?_
                refine LH.take 11 rfl (by kernel_rfl) (by kernel_rfl) (by kernel_rfl) (fun Hq hq => Y.move rfl rfl) (Wd.u rfl) rfl rfl hqs ?_
                refine LH.take 12 rfl (by kernel_rfl) (by kernel_rfl) (by kernel_rfl) (fun Hq hq => Y.move rfl rfl) (Wd.u rfl) rfl rfl hqs ?_
                refine LH.e (g := fun v => v) 13 rfl (by kernel_rfl) (by kernel_rfl) (by kernel_rfl) (Y.slice hb2 (k) (_) rfl Try.runUnderlying22 Try.sizeOf9 rfl (.inr ⟨_, _, _, rfl, rfl, by first | rfl | omega⟩) (.inl ⟨rfl, rfl⟩) (by omega) (by omega)) (Wd.u rfl) rfl rfl hqs (fun v75 rd75 => ?_)
                refine LH.two (i := 4) (j := 9) (by kernel_rfl) ?_ ?_
                ·
                  refine LO.z rfl (Z.append (Own.nil (G := fun _ => False) (e := 9) fS_len fS_one) rd65 rfl inf22 rfl rfl (by simp; omega) (by simp; omega)) (Wd.u rfl) rfl rfl (fun v66 H66 r66 => ?_)
                  obtain ⟨ho66, hs66⟩ := r66
                  replace ho66 := ho66.imp (G' := fun b => H49.size ≤ b) (fun b _ e => e.elim False.elim (fun e => by first | exact e | exact Nat.le_trans hq71.size e))
                  replace rd75 := rd75.nw hs66
                  try replace ho71 := ho71.nw hs66
                  have hq66 := hqs.tr hs66
                  refine ⟨hq66, ?_⟩
                  refine LH.one (i := 9) (by kernel_rfl) ?_
                  refine LO.z rfl (Z.lit _ ([ps[i]]) rfl inf22 rfl rfl rfl (by decide) (by decide) fS_len fS_one rfl) (Wd.u rfl) rfl rfl (fun v71 H71 r71 => ?_)
                  obtain ⟨ho71, hs71, -⟩ := r71
                  try replace rd65 := rd65.nw hs71
                  replace rd75 := rd75.nw hs71
                  try replace ho66 := ho66.nw hs71
                  have hq71 := hq66.tr hs71
                  refine ⟨hq71, ?_⟩
                  refine LH.one (i := 10) (by kernel_rfl) ?_
                  refine LO.z rfl (Z.append ho66 ho71.rd rfl inf22 rfl rfl (by simp; omega) (by simp; omega)) (Wd.u rfl) rfl rfl (fun v72 H72 r72 => ?_)
                  obtain ⟨ho72, hs72⟩ := r72
                  replace ho72 := ho72.imp (G' := fun b => H49.size ≤ b) (fun b _ e => by rcases e with e | e <;> first | exact e | exact Nat.le_trans hq71.size e | exact Nat.le_trans hq66.size e)
                  replace rd75 := rd75.up hs72 (fun b _ h1 h2 => by omega)
                  have hq72 := hq71.trans hs72 (fun _ _ e => e) (fun b hb e => by omega)
                  refine ⟨hq72, ?_⟩
                  refine LH.one (i := 14) (by kernel_rfl) ?_
                  refine LO.z rfl (Z.append ho72 rd75 rfl inf22 rfl rfl (by simp; omega) (by simp; omega)) (Wd.u rfl) rfl rfl (fun v76 H76 r76 => ?_)
                  obtain ⟨ho76, hs76⟩ := r76
                  have hq76 := hq72.trans hs76 (fun _ _ e => e) (fun b hb e => by omega)
                  refine ⟨hq76, ?_⟩
                  refine LH.take 15 rfl (by kernel_rfl) (by kernel_rfl) (by kernel_rfl) (fun Hq hq => Y.assign rfl rfl) (Wd.u rfl) rfl rfl hq76 ?_
                  refine LH.done (by kernel_rfl) ?_
                  have hqe := hq76
                  refine hK21 _ _ ?_
                  refine CW.seq (fun K22 hK22 hE22 => ?_)
                  refine CW.region ?_
                  refine LR.v (Y.move rfl rfl) (Wd.u rfl) rfl rfl ?_
                  refine LR.v (Y.assign rfl rfl) (Wd.u rfl) rfl rfl ?_
                  refine LR.nil ?_
                  refine hK22 _ _ ?_
                  refine CW.region ?_
                  refine LR.v (Y.move rfl rfl) (Wd.u rfl) rfl rfl ?_
                  refine LR.v (Y.addi rfl rfl rfl (by omega)) (Wd.u rfl) rfl rfl ?_
                  refine LR.v (Y.assign rfl rfl) (Wd.u rfl) rfl rfl ?_
                  refine LR.nil ?_
                  refine hK17 _ _ ?_
                  refine hK16 _ _ ?_
                  refine CW.region ?_
                  refine LR.v (Y.move rfl rfl) (Wd.u rfl) rfl rfl ?_
                  refine LR.v (Y.addi rfl rfl rfl (by omega)) (Wd.u rfl) rfl rfl ?_
                  refine LR.v (Y.assign rfl rfl) (Wd.u rfl) rfl rfl ?_
                  refine LR.nil ?_
                  have hq76s := hqe.size
                  have hq72s := hq72.size
                  have hb3 := ho76.rd.imp (F' := fun b => H0.size ≤ b) (fun b _ e => by rcases e with e | e <;> omega)
                  simp only [List.nil_append, List.drop_zero, drop_take_len, List.append_assoc, List.singleton_append] at hb3
                  have hli := lcs_insert a bl k ps[i]
                  have hlen : (bl.take k ++ ps[i] :: bl.drop k).length = bl.length + 1 := by simp; omega
                  refine QN.sub (hN13 (i + 1, v76, bl.take k ++ ps[i] :: bl.drop k, c + 1) _ ?_ ?_) ⟨rfl, rfl, rfl, rfl, (iv (by omega)), (iv (by omega)), trivial⟩
                  · exact ⟨hN.tr hqe, hs.tr hqe, hb3, by omega, by omega, by omega, by omega, by omega⟩
                  · show 8 - (i + 1) < 8 - i; omega
                ·
                  refine LO.z rfl (Z.lit _ ([ps[i]]) rfl inf22 rfl rfl rfl (by decide) (by decide) fS_len fS_one rfl) (Wd.u rfl) rfl rfl (fun v71 H71 r71 => ?_)
                  obtain ⟨ho71, hs71, -⟩ := r71
                  try replace rd65 := rd65.nw hs71
                  replace rd75 := rd75.nw hs71
                  try replace ho66 := ho66.nw hs71
                  have hq71 := hqs.tr hs71
                  refine ⟨hq71, ?_⟩
                  refine LH.one (i := 4) (by kernel_rfl) ?_
                  refine LO.z rfl (Z.append (Own.nil (G := fun _ => False) (e := 9) fS_len fS_one) rd65 rfl inf22 rfl rfl (by simp; omega) (by simp; omega)) (Wd.u rfl) rfl rfl (fun v66 H66 r66 => ?_)
                  obtain ⟨ho66, hs66⟩ := r66
                  replace ho66 := ho66.imp (G' := fun b => H49.size ≤ b) (fun b _ e => e.elim False.elim (fun e => by first | exact e | exact Nat.le_trans hq71.size e))
                  replace rd75 := rd75.nw hs66
                  try replace ho71 := ho71.nw hs66
                  have hq66 := hq71.tr hs66
                  refine ⟨hq66, ?_⟩
                  refine LH.one (i := 10) (by kernel_rfl) ?_
                  refine LO.z rfl (Z.append ho66 ho71.rd rfl inf22 rfl rfl (by simp; omega) (by simp; omega)) (Wd.u rfl) rfl rfl (fun v72 H72 r72 => ?_)
                  obtain ⟨ho72, hs72⟩ := r72
                  replace ho72 := ho72.imp (G' := fun b => H49.size ≤ b) (fun b _ e => by rcases e with e | e <;> first | exact e | exact Nat.le_trans hq71.size e | exact Nat.le_trans hq66.size e)
                  replace rd75 := rd75.up hs72 (fun b _ h1 h2 => by omega)
                  have hq72 := hq66.trans hs72 (fun _ _ e => e) (fun b hb e => by omega)
                  refine ⟨hq72, ?_⟩
                  refine LH.one (i := 14) (by kernel_rfl) ?_
                  refine LO.z rfl (Z.append ho72 rd75 rfl inf22 rfl rfl (by simp; omega) (by simp; omega)) (Wd.u rfl) rfl rfl (fun v76 H76 r76 => ?_)
                  obtain ⟨ho76, hs76⟩ := r76
                  have hq76 := hq72.trans hs76 (fun _ _ e => e) (fun b hb e => by omega)
                  refine ⟨hq76, ?_⟩
                  refine LH.take 15 rfl (by kernel_rfl) (by kernel_rfl) (by kernel_rfl) (fun Hq hq => Y.assign rfl rfl) (Wd.u rfl) rfl rfl hq76 ?_
                  refine LH.done (by kernel_rfl) ?_
                  have hqe := hq76
                  refine hK21 _ _ ?_
                  refine CW.seq (fun K23 hK23 hE23 => ?_)
                  refine CW.region ?_
                  refine LR.v (Y.move rfl rfl) (Wd.u rfl) rfl rfl ?_
                  refine LR.v (Y.assign rfl rfl) (Wd.u rfl) rfl rfl ?_
                  refine LR.nil ?_
                  refine hK23 _ _ ?_
                  refine CW.region ?_
                  refine LR.v (Y.move rfl rfl) (Wd.u rfl) rfl rfl ?_
                  refine LR.v (Y.addi rfl rfl rfl (by omega)) (Wd.u rfl) rfl rfl ?_
                  refine LR.v (Y.assign rfl rfl) (Wd.u rfl) rfl rfl ?_
                  refine LR.nil ?_
                  refine hK17 _ _ ?_
                  refine hK16 _ _ ?_
                  refine CW.region ?_
                  refine LR.v (Y.move rfl rfl) (Wd.u rfl) rfl rfl ?_
                  refine LR.v (Y.addi rfl rfl rfl (by omega)) (Wd.u rfl) rfl rfl ?_
                  refine LR.v (Y.assign rfl rfl) (Wd.u rfl) rfl rfl ?_
                  refine LR.nil ?_
                  have hq76s := hqe.size
                  have hq72s := hq72.size
                  have hb3 := ho76.rd.imp (F' := fun b => H0.size ≤ b) (fun b _ e => by rcases e with e | e <;> omega)
                  simp only [List.nil_append, List.drop_zero, drop_take_len, List.append_assoc, List.singleton_append] at hb3
                  have hli := lcs_insert a bl k ps[i]
                  have hlen : (bl.take k ++ ps[i] :: bl.drop k).length = bl.length + 1 := by simp; omega
                  refine QN.sub (hN13 (i + 1, v76, bl.take k ++ ps[i] :: bl.drop k, c + 1) _ ?_ ?_) ⟨rfl, rfl, rfl, rfl, (iv (by omega)), (iv (by omega)), trivial⟩
                  · exact ⟨hN.tr hqe, hs.tr hqe, hb3, by omega, by omega, by omega, by omega, by omega⟩
                  · show 8 - (i + 1) < 8 - i; omega
              ·
                refine CW.seq (fun K24 hK24 hE24 => ?_)
                refine CW.region ?_
                refine LR.v (Y.move rfl rfl) (Wd.u rfl) rfl rfl ?_
                refine LR.v (Y.move rfl rfl) (Wd.u rfl) rfl rfl ?_
                refine LR.v (Y.len hb2 rfl Try.runUnderlying22 rfl) (Wd.u rfl) rfl rfl ?_
                refine LR.v (Y.lss rfl rfl rfl) (Wd.u rfl) rfl rfl ?_
                refine LR.nil ?_
                refine hK24 _ _ ?_
                refine CW.condp rfl (fun c83 => ?_) (fun c83 => ?_)
                ·
                  refine CW.seq (fun K25 hK25 hE25 => ?_)
                  refine CW.region ?_
                  refine LR.v (Y.assign rfl rfl) (Wd.u rfl) rfl rfl ?_
                  refine LR.nil ?_
                  refine hK25 _ _ ?_
                  refine CW.seq (fun K26 hK26 hE26 => ?_)
                  refine CW.region_any (fun Hq => Nw H49 Hq) rfl ?_
                  have hqs := Nw.refl H49
                  refine LH.take 0 rfl (by kernel_rfl) (by kernel_rfl) (by kernel_rfl) (fun Hq hq => Y.move rfl rfl) (Wd.u rfl) rfl rfl hqs ?_
                  refine LH.take 1 rfl (by kernel_rfl) (by kernel_rfl) (by kernel_rfl) (fun Hq hq => Y.move rfl rfl) (Wd.u rfl) rfl rfl hqs ?_
                  refine LH.take 2 rfl (by kernel_rfl) (by kernel_rfl) (by kernel_rfl) (fun Hq hq => Y.move rfl rfl) (Wd.u rfl) rfl rfl hqs ?_
                  refine LH.e (g := fun v => v) 3 rfl (by kernel_rfl) (by kernel_rfl) (by kernel_rfl) (Y.slice hb2 (0) (k) rfl Try.runUnderlying22 Try.sizeOf9 rfl (.inl ⟨rfl, rfl⟩) (.inr ⟨_, _, _, rfl, rfl, by first | rfl | omega⟩) (by omega) (by omega)) (Wd.u rfl) rfl rfl hqs (fun v87 rd87 => ?_)
                  refine LH.take 5 rfl (by kernel_rfl) (by kernel_rfl) (by kernel_rfl) (fun Hq hq => Y.move rfl rfl) (Wd.u rfl) rfl rfl hqs ?_
                  refine LH.take 6 rfl (by kernel_rfl) (by kernel_rfl) (by kernel_rfl) (fun Hq hq => Y.move rfl rfl) (Wd.u rfl) rfl rfl hqs ?_
                  refine LH.take 7 rfl (by kernel_rfl) (by kernel_rfl) (by kernel_rfl) (fun Hq hq => Y.addi rfl rfl rfl (by omega)) (Wd.u rfl) rfl rfl hqs ?_
                  refine LH.e (g := fun v => v) 8 rfl (by kernel_rfl) (by kernel_rfl) (by kernel_rfl) (Y.slice hb2 (k + 1) (_) rfl Try.runUnderlying22 Try.sizeOf9 rfl (.inr ⟨_, _, _, rfl, rfl, by first | rfl | omega⟩) (.inl ⟨rfl, rfl⟩) (by omega) (by omega)) (Wd.u rfl) rfl rfl hqs (fun v92 rd92 => ?_)
                  refine LH.one (i := 4) (by kernel_rfl) ?_
                  refine LO.z rfl (Z.append (Own.nil (G := fun _ => False) (e := 9) fS_len fS_one) rd87 rfl inf22 rfl rfl (by simp; omega) (by simp; omega)) (Wd.u rfl) rfl rfl (fun v88 H88 r88 => ?_)
                  obtain ⟨ho88, hs88⟩ := r88
                  replace rd92 := rd92.nw hs88
                  have hq88 := hqs.tr hs88
                  refine ⟨hq88, ?_⟩
                  refine LH.one (i := 9) (by kernel_rfl) ?_
                  refine LO.z rfl (Z.append ho88 rd92 rfl inf22 rfl rfl (by simp; omega) (by simp; omega)) (Wd.u rfl) rfl rfl (fun v93 H93 r93 => ?_)
                  obtain ⟨ho93, hs93⟩ := r93
                  have hq93 := hq88.trans hs93 (fun _ _ e => e) (fun b hb e => by simp only [false_or] at e; omega)
                  refine ⟨hq93, ?_⟩
                  refine LH.take 10 rfl (by kernel_rfl) (by kernel_rfl) (by kernel_rfl) (fun Hq hq => Y.assign rfl rfl) (Wd.u rfl) rfl rfl hq93 ?_
                  refine LH.done (by kernel_rfl) ?_
                  have hqe := hq93
                  refine hK26 _ _ ?_
                  refine CW.seq (fun K27 hK27 hE27 => ?_)
                  refine CW.region ?_
                  refine LR.v (Y.move rfl rfl) (Wd.u rfl) rfl rfl ?_
                  refine LR.v (Y.assign rfl rfl) (Wd.u rfl) rfl rfl ?_
                  refine LR.nil ?_
                  refine hK27 _ _ ?_
                  refine CW.region ?_
                  refine LR.v (Y.move rfl rfl) (Wd.u rfl) rfl rfl ?_
                  refine LR.v (Y.addi rfl rfl rfl (by omega)) (Wd.u rfl) rfl rfl ?_
                  refine LR.v (Y.assign rfl rfl) (Wd.u rfl) rfl rfl ?_
                  refine LR.nil ?_
                  refine hK17 _ _ ?_
                  refine hK16 _ _ ?_
                  refine CW.region ?_
                  refine LR.v (Y.move rfl rfl) (Wd.u rfl) rfl rfl ?_
                  refine LR.v (Y.addi rfl rfl rfl (by omega)) (Wd.u rfl) rfl rfl ?_
                  refine LR.v (Y.assign rfl rfl) (Wd.u rfl) rfl rfl ?_
                  refine LR.nil ?_
                  have hb3 := ho93.rd.imp (F' := fun b => H0.size ≤ b) (fun b _ e => by have := hq88.size; simp only [false_or] at e; omega)
                  simp only [List.nil_append, List.drop_zero, drop_take_len] at hb3
                  have hli := lcs_delete a bl k (by omega)
                  have hlen : (bl.take k ++ bl.drop (k + 1)).length + 1 = bl.length := by simp; omega
                  refine QN.sub (hN13 (i + 1, v93, bl.take k ++ bl.drop (k + 1), c + 1) _ ?_ ?_) ⟨rfl, rfl, rfl, rfl, (iv (by omega)), (iv (by omega)), trivial⟩
                  · exact ⟨hN.tr hqe, hs.tr hqe, hb3, by omega, by omega, by omega, by omega, by omega⟩
                  · show 8 - (i + 1) < 8 - i; omega
                ·
                  refine CW.skip ?_
                  refine hK17 _ _ ?_
                  refine hK16 _ _ ?_
                  refine CW.region ?_
                  refine LR.v (Y.move rfl rfl) (Wd.u rfl) rfl rfl ?_
                  refine LR.v (Y.addi rfl rfl rfl (by omega)) (Wd.u rfl) rfl rfl ?_
                  refine LR.v (Y.assign rfl rfl) (Wd.u rfl) rfl rfl ?_
                  refine LR.nil ?_
                  refine QN.sub (hN13 (i + 1, vl, bl, c) _ ?_ ?_) ⟨rfl, rfl, rfl, rfl, (iv (by omega)), (iv (by omega)), trivial⟩
                  · exact ⟨hN, hs, hb, by omega, by omega, by omega, by omega, by omega⟩
                  · show 8 - (i + 1) < 8 - i; omega
            ·
              refine LR.gs rfl rfl rfl rfl rfl rfl ?_
              refine LR.gs rfl rfl rfl rfl rfl rfl ?_
              refine LR.gs rfl rfl rfl rfl rfl rfl ?_
              refine LR.gs rfl rfl rfl rfl rfl rfl ?_
              refine LR.gs rfl rfl rfl rfl rfl rfl ?_
              refine LR.gs rfl rfl rfl rfl rfl rfl ?_
              refine LR.v (Y.pick_f rfl rfl rfl) (Wd.u rfl) rfl rfl ?_
              refine LR.nil ?_
              refine hK19 _ _ ?_
              refine CW.cond_f rfl ?_
              refine CW.seq (fun K28 hK28 hE28 => ?_)
              refine CW.region ?_
              refine LR.v (Y.move rfl rfl) (Wd.u rfl) rfl rfl ?_
              refine LR.v (Y.move rfl rfl) (Wd.u rfl) rfl rfl ?_
              refine LR.v (Y.len hb2 rfl Try.runUnderlying22 rfl) (Wd.u rfl) rfl rfl ?_
              refine LR.v (Y.lss rfl rfl rfl) (Wd.u rfl) rfl rfl ?_
              refine LR.nil ?_
              refine hK28 _ _ ?_
              refine CW.condp rfl (fun c83 => ?_) (fun c83 => ?_)
              ·
                refine CW.seq (fun K29 hK29 hE29 => ?_)
                refine CW.region ?_
                refine LR.v (Y.assign rfl rfl) (Wd.u rfl) rfl rfl ?_
                refine LR.nil ?_
                refine hK29 _ _ ?_
                refine CW.seq (fun K30 hK30 hE30 => ?_)
                refine CW.region_any (fun Hq => Nw H49 Hq) rfl ?_
                have hqs := Nw.refl H49
                refine LH.take 0 rfl (by kernel_rfl) (by kernel_rfl) (by kernel_rfl) (fun Hq hq => Y.move rfl rfl) (Wd.u rfl) rfl rfl hqs ?_
                refine LH.take 1 rfl (by kernel_rfl) (by kernel_rfl) (by kernel_rfl) (fun Hq hq => Y.move rfl rfl) (Wd.u rfl) rfl rfl hqs ?_
                refine LH.take 2 rfl (by kernel_rfl) (by kernel_rfl) (by kernel_rfl) (fun Hq hq => Y.move rfl rfl) (Wd.u rfl) rfl rfl hqs ?_
                refine LH.e (g := fun v => v) 3 rfl (by kernel_rfl) (by kernel_rfl) (by kernel_rfl) (Y.slice hb2 (0) (k) rfl Try.runUnderlying22 Try.sizeOf9 rfl (.inl ⟨rfl, rfl⟩) (.inr ⟨_, _, _, rfl, rfl, by first | rfl | omega⟩) (by omega) (by omega)) (Wd.u rfl) rfl rfl hqs (fun v87 rd87 => ?_)
                refine LH.take 5 rfl (by kernel_rfl) (by kernel_rfl) (by kernel_rfl) (fun Hq hq => Y.move rfl rfl) (Wd.u rfl) rfl rfl hqs ?_
                refine LH.take 6 rfl (by kernel_rfl) (by kernel_rfl) (by kernel_rfl) (fun Hq hq => Y.move rfl rfl) (Wd.u rfl) rfl rfl hqs ?_
                refine LH.take 7 rfl (by kernel_rfl) (by kernel_rfl) (by kernel_rfl) (fun Hq hq => Y.addi rfl rfl rfl (by omega)) (Wd.u rfl) rfl rfl hqs ?_
                refine LH.e (g := fun v => v) 8 rfl (by kernel_rfl) (by kernel_rfl) (by kernel_rfl) (Y.slice hb2 (k + 1) (_) rfl Try.runUnderlying22 Try.sizeOf9 rfl (.inr ⟨_, _, _, rfl, rfl, by first | rfl | omega⟩) (.inl ⟨rfl, rfl⟩) (by omega) (by omega)) (Wd.u rfl) rfl rfl hqs (fun v92 rd92 => ?_)
                refine LH.one (i := 4) (by kernel_rfl) ?_
                refine LO.z rfl (Z.append (Own.nil (G := fun _ => False) (e := 9) fS_len fS_one) rd87 rfl inf22 rfl rfl (by simp; omega) (by simp; omega)) (Wd.u rfl) rfl rfl (fun v88 H88 r88 => ?_)
                obtain ⟨ho88, hs88⟩ := r88
                replace rd92 := rd92.nw hs88
                have hq88 := hqs.tr hs88
                refine ⟨hq88, ?_⟩
                refine LH.one (i := 9) (by kernel_rfl) ?_
                refine LO.z rfl (Z.append ho88 rd92 rfl inf22 rfl rfl (by simp; omega) (by simp; omega)) (Wd.u rfl) rfl rfl (fun v93 H93 r93 => ?_)
                obtain ⟨ho93, hs93⟩ := r93
                have hq93 := hq88.trans hs93 (fun _ _ e => e) (fun b hb e => by simp only [false_or] at e; omega)
                refine ⟨hq93, ?_⟩
                refine LH.take 10 rfl (by kernel_rfl) (by kernel_rfl) (by kernel_rfl) (fun Hq hq => Y.assign rfl rfl) (Wd.u rfl) rfl rfl hq93 ?_
                refine LH.done (by kernel_rfl) ?_
                have hqe := hq93
                refine hK30 _ _ ?_
                refine CW.seq (fun K31 hK31 hE31 => ?_)
                refine CW.region ?_
                refine LR.v (Y.move rfl rfl) (Wd.u rfl) rfl rfl ?_
                refine LR.v (Y.assign rfl rfl) (Wd.u rfl) rfl rfl ?_
                refine LR.nil ?_
                refine hK31 _ _ ?_
                refine CW.region ?_
                refine LR.v (Y.move rfl rfl) (Wd.u rfl) rfl rfl ?_
                refine LR.v (Y.addi rfl rfl rfl (by omega)) (Wd.u rfl) rfl rfl ?_
                refine LR.v (Y.assign rfl rfl) (Wd.u rfl) rfl rfl ?_
                refine LR.nil ?_
                refine hK17 _ _ ?_
                refine hK16 _ _ ?_
                refine CW.region ?_
                refine LR.v (Y.move rfl rfl) (Wd.u rfl) rfl rfl ?_
                refine LR.v (Y.addi rfl rfl rfl (by omega)) (Wd.u rfl) rfl rfl ?_
                refine LR.v (Y.assign rfl rfl) (Wd.u rfl) rfl rfl ?_
                refine LR.nil ?_
                have hb3 := ho93.rd.imp (F' := fun b => H0.size ≤ b) (fun b _ e => by have := hq88.size; simp only [false_or] at e; omega)
                simp only [List.nil_append, List.drop_zero, drop_take_len] at hb3
                have hli := lcs_delete a bl k (by omega)
                have hlen : (bl.take k ++ bl.drop (k + 1)).length + 1 = bl.length := by simp; omega
                refine QN.sub (hN13 (i + 1, v93, bl.take k ++ bl.drop (k + 1), c + 1) _ ?_ ?_) ⟨rfl, rfl, rfl, rfl, (iv (by omega)), (iv (by omega)), trivial⟩
                · exact ⟨hN.tr hqe, hs.tr hqe, hb3, by omega, by omega, by omega, by omega, by omega⟩
                · show 8 - (i + 1) < 8 - i; omega
              ·
                refine CW.skip ?_
                refine hK17 _ _ ?_
                refine hK16 _ _ ?_
                refine CW.region ?_
                refine LR.v (Y.move rfl rfl) (Wd.u rfl) rfl rfl ?_
                refine LR.v (Y.addi rfl rfl rfl (by omega)) (Wd.u rfl) rfl rfl ?_
                refine LR.v (Y.assign rfl rfl) (Wd.u rfl) rfl rfl ?_
                refine LR.nil ?_
                refine QN.sub (hN13 (i + 1, vl, bl, c) _ ?_ ?_) ⟨rfl, rfl, rfl, rfl, (iv (by omega)), (iv (by omega)), trivial⟩
                · exact ⟨hN, hs, hb, by omega, by omega, by omega, by omega, by omega⟩
                · show 8 - (i + 1) < 8 - i; omega
          ·
            refine CW.exit (hE14 (.exit 0) nofun _ _ (hE13 (.exit 0) nofun _ _ (hX12 _ _ ?_)))
            refine QN.sub (hK10 (vl, bl, c) _ ?_) ⟨rfl, rfl, (iv (by omega)), trivial⟩
            exact ⟨hN, hs, hb, hle, by omega, by omega⟩
        ·
          refine LR.gs rfl rfl rfl rfl rfl rfl ?_
          refine LR.gs rfl rfl rfl rfl rfl rfl ?_
          refine LR.v (Y.pick_f rfl rfl rfl) (Wd.u rfl) rfl rfl ?_
          refine LR.nil ?_
          refine hK15 _ _ ?_
          refine CW.cond_f rfl ?_
          refine CW.exit (hE14 (.exit 0) nofun _ _ (hE13 (.exit 0) nofun _ _ (hX12 _ _ ?_)))
          refine QN.sub (hK10 (vl, bl, c) _ ?_) ⟨rfl, rfl, (iv (by omega)), trivial⟩
          exact ⟨hN, hs, hb, hle, by omega, by omega⟩
      ·
        rintro ⟨vl, bl, c⟩ Hcut0 hIcut0
        obtain ⟨hN, hs, hb, hle, hbl, hc⟩ := hIcut0
        have ha2 := ha.nw hN
        refine CW.seq (fun K32 hK32 hE32 => ?_)
        refine CW.region ?_
        refine LR.v (Y.move rfl rfl) (Wd.u rfl) rfl rfl ?_
        refine LR.v (Y.move rfl rfl) (Wd.u rfl) rfl rfl ?_
        -- call selvage/lines.Diff
        refine LR.call rfl Try.call12 rfl (Wd.u rfl) rfl rfl (diff_ct _ _ a bl w0 Hcut0 ha2 hb.any) (fun v100 H100 r100 => ?_)
        obtain ⟨ve, rfl, hoe, hs100⟩ := r100
        rw [if_neg (by omega)] at hoe ⊢
        replace ha2 := ha2.nw hs100
        replace hs := hs.tr hs100
        refine LR.v (Y.move rfl rfl) (Wd.u rfl) rfl rfl ?_
        refine LR.v (Y.extract rfl rfl rfl) (Wd.u rfl) rfl rfl ?_
        refine LR.v (Y.extract rfl rfl rfl) (Wd.u rfl) rfl rfl ?_
        refine LR.v (Y.assign rfl rfl) (Wd.u rfl) rfl rfl ?_
        refine LR.v (Y.assign rfl rfl) (Wd.u rfl) rfl rfl ?_
        refine LR.nil ?_
        refine hK32 _ _ ?_
        refine CW.seq (fun K33 hK33 hE33 => ?_)
        refine CW.region ?_
        refine LR.v (Y.move rfl rfl) (Wd.u rfl) rfl rfl ?_
        refine LR.v (Y.move rfl rfl) (Wd.u rfl) rfl rfl ?_
        -- call selvage/lines.Diff
        refine LR.call rfl Try.call12 rfl (Wd.u rfl) rfl rfl (diff_ct _ _ a a w0 H100 ha2 ha2) (fun v106 H106 r106 => ?_)
        obtain ⟨vs, rfl, hos, hs106⟩ := r106
        rw [if_neg (by omega)] at hos ⊢
        replace hoe := (hoe.nw hs106).rd.any
        replace ha2 := ha2.nw hs106
        replace hs := hs.tr hs106
        have hos := hos.rd.any
        have hp1 := runs_pos (W a bl)
        have hrt1 : tot (script a bl) = (W a bl).length := runs_tot (W a bl)
        have htp1 := tot_pos (script a bl) hp1
        have hWl1 := len_W a bl
        have hp2 := runs_pos (W a a)
        have hrt2 : tot (script a a) = (W a a).length := runs_tot (W a a)
        have htp2 := tot_pos (script a a) hp2
        have hWl2 := len_W a a
        have hks := keptE_script a bl
        refine LR.v (Y.move rfl rfl) (Wd.u rfl) rfl rfl ?_
        refine LR.v (Y.extract rfl rfl rfl) (Wd.u rfl) rfl rfl ?_
        refine LR.v (Y.extract rfl rfl rfl) (Wd.u rfl) rfl rfl ?_
        refine LR.v (Y.assign rfl rfl) (Wd.u rfl) rfl rfl ?_
        refine LR.v (Y.assign rfl rfl) (Wd.u rfl) rfl rfl ?_
        refine LR.nil ?_
        refine hK33 _ _ ?_
        refine CW.seq (fun K34 hK34 hE34 => ?_)
        refine CW.region ?_
        refine LR.v (Y.assign rfl rfl) (Wd.u rfl) rfl rfl ?_
        refine LR.nil ?_
        refine hK34 _ _ ?_
        refine CW.seq (fun K35 hK35 hE35 => ?_)
        refine CW.seq (fun K36 hK36 hE36 => ?_)
        refine CW.region ?_
        refine LR.v (Y.assign rfl rfl) (Wd.u rfl) rfl rfl ?_
        refine LR.nil ?_
        refine hK36 _ _ ?_
        refine CW.block (fun K37 hK37 hX37 hE37 => ?_)
        refine CW.loop (fun (k : (Nat)) => [(0, va), (8, .int .i64 c), (13, ve), (14, .int .i64 0), (15, vs), (16, .int .i64 0), (17, .int .i64 (tot ((script a bl).take k) - keptE ((script a bl).take k))), (18, .int .i64 k)])
          (fun (k : (Nat)) (H : Heap) => H = H106 ∧ k ≤ (script a bl).length)
          (fun (k : (Nat)) => (script a bl).length - k) 0 ⟨rfl, rfl, rfl, rfl, rfl, rfl, rfl, rfl, trivial⟩ ?_ ?_
        ·
          exact ⟨rfl, by omega⟩
        intro k H2 hI2 K38 hN38 hE38
        obtain ⟨rfl, hk1⟩ := hI2
        have hbd := keptE_bd (script a bl) hp1 k hk1
        have htl := tot_take_le (script a bl) hp1 k
        refine CW.seq (fun K39 hK39 hE39 => ?_)
        refine CW.seq (fun K40 hK40 hE40 => ?_)
        refine CW.region ?_
        refine LR.v (Y.move rfl rfl) (Wd.u rfl) rfl rfl ?_
        refine LR.v (Y.move rfl rfl) (Wd.u rfl) rfl rfl ?_
        refine LR.v (Y.len hoe rfl Try.runUnderlying25 rfl) (Wd.u rfl) rfl rfl ?_
        refine LR.v (Y.lss rfl rfl rfl) (Wd.u rfl) rfl rfl ?_
        refine LR.nil ?_
        refine hK40 _ _ ?_
        refine CW.condp rfl (fun c112 => ?_) (fun c112 => ?_)
        ·
          have hks1 := keptE_succ (script a bl) k (by omega)
          have htt := tot_take (script a bl) k (by omega)
          have htl2 := tot_take_le (script a bl) hp1 (k+1)
          have hpk := hp1 (script a bl)[k] (List.getElem_mem _)
          refine CW.skip ?_
          refine hK39 _ _ ?_
          refine CW.seq (fun K41 hK41 hE41 => ?_)
          refine CW.block (fun K42 hK42 hX42 hE42 => ?_)
          refine CW.seq (fun K43 hK43 hE43 => ?_)
          refine CW.region ?_
          refine LR.v (Y.move rfl rfl) (Wd.u rfl) rfl rfl ?_
          refine LR.v (Y.move rfl rfl) (Wd.u rfl) rfl rfl ?_
          refine LR.e (g := fun ad => .pointer (some ad)) (Y.indexAddr hoe (k) rfl Try.runUnderlying25 Try.sizeOf36 rfl rfl (by first | rfl | omega) (by omega)) (Wd.u rfl) rfl rfl (fun ad117 pt117 => ?_)
          refine LR.v (Y.fieldAddr pt117 rfl Try.runUnderlying36 rfl rfl Try.sizeOf3 (by decide) rfl) (Wd.u rfl) rfl rfl ?_
          refine LR.v (Y.load1 (pt117.drop 0) rfl Try.isAgg3 rfl) (Wd.u rfl) rfl rfl ?_
          refine LR.v (Y.neq rfl rfl rfl) (Wd.u rfl) rfl rfl ?_
          refine LR.nil ?_
          refine hK43 _ _ ?_
          refine CW.condp rfl (fun c120 => ?_) (fun c120 => ?_)
          ·
            refine CW.region ?_
            refine LR.v (Y.move rfl rfl) (Wd.u rfl) rfl rfl ?_
            refine LR.v (Y.move rfl rfl) (Wd.u rfl) rfl rfl ?_
            refine LR.v (Y.move rfl rfl) (Wd.u rfl) rfl rfl ?_
            refine LR.e (g := fun ad => .pointer (some ad)) (Y.indexAddr hoe (k) rfl Try.runUnderlying25 Try.sizeOf36 rfl rfl (by first | rfl | omega) (by omega)) (Wd.u rfl) rfl rfl (fun ad124 pt124 => ?_)
            refine LR.v (Y.fieldAddr pt124 rfl Try.runUnderlying36 rfl rfl Try.sizeOf3 (by decide) rfl) (Wd.u rfl) rfl rfl ?_
            refine LR.v (Y.load1 (pt124.drop 1) rfl Try.isAgg3 rfl) (Wd.u rfl) rfl rfl ?_
            refine LR.v (Y.addi rfl rfl rfl (by omega)) (Wd.u rfl) rfl rfl ?_
            refine LR.v (Y.assign rfl rfl) (Wd.u rfl) rfl rfl ?_
            refine LR.nil ?_
            refine hK42 _ _ ?_
            refine hK41 _ _ ?_
            refine CW.region ?_
            refine LR.v (Y.move rfl rfl) (Wd.u rfl) rfl rfl ?_
            refine LR.v (Y.addi rfl rfl rfl (by omega)) (Wd.u rfl) rfl rfl ?_
            refine LR.v (Y.assign rfl rfl) (Wd.u rfl) rfl rfl ?_
            refine LR.nil ?_
            rw [if_neg (by omega)] at hks1
            refine QN.sub (hN38 (k+1) _ ?_ ?_) ⟨rfl, (iv (by omega)), rfl, (iv (by omega)), rfl, (iv (by omega)), (iv (by omega)), (iv (by omega)), trivial⟩
            · exact ⟨rfl, by omega⟩
            · omega
          ·
            refine CW.skip ?_
            refine hK42 _ _ ?_
            refine hK41 _ _ ?_
            refine CW.region ?_
            refine LR.v (Y.move rfl rfl) (Wd.u rfl) rfl rfl ?_
            refine LR.v (Y.addi rfl rfl rfl (by omega)) (Wd.u rfl) rfl rfl ?_
            refine LR.v (Y.assign rfl rfl) (Wd.u rfl) rfl rfl ?_
            refine LR.nil ?_
            rw [if_pos (by omega)] at hks1
            refine QN.sub (hN38 (k+1) _ ?_ ?_) ⟨rfl, (iv (by omega)), rfl, (iv (by omega)), rfl, (iv (by omega)), (iv (by omega)), (iv (by omega)), trivial⟩
            · exact ⟨rfl, by omega⟩
            · omega
        ·
          rw [List.take_of_length_le (by omega)] at hbd htl ⊢
          refine CW.exit (hE39 (.exit 2) nofun _ _ (hE38 (.exit 2) nofun _ _ (hX37 _ _ ?_)))
          refine hK35 _ _ ?_
          refine CW.seq (fun K44 hK44 hE44 => ?_)
          refine CW.region ?_
          refine LR.v (Y.move rfl rfl) (Wd.u rfl) rfl rfl ?_
          refine LR.v ((Y.eql rfl rfl rfl).isT (rfl)) (Wd.u rfl) rfl rfl ?_
          refine LR.v (Y.move rfl rfl) (Wd.u rfl) rfl rfl ?_
          refine LR.v (Y.move rfl rfl) (Wd.g rfl rfl rfl) rfl rfl ?_
          refine LR.v (Y.move rfl rfl) (Wd.g rfl rfl rfl) rfl rfl ?_
          refine LR.v ((Y.leq rfl rfl rfl).isT (by omega)) (Wd.g rfl rfl rfl) rfl rfl ?_
          refine LR.v (Y.pick_t rfl rfl rfl) (Wd.u rfl) rfl rfl ?_
          refine LR.v (Y.move rfl rfl) (Wd.u rfl) rfl rfl ?_
          refine LR.v (Y.move rfl rfl) (Wd.g rfl rfl rfl) rfl rfl ?_
          refine LR.v ((Y.eql rfl rfl rfl).isT (rfl)) (Wd.g rfl rfl rfl) rfl rfl ?_
          refine LR.v (Y.pick_t rfl rfl rfl) (Wd.u rfl) rfl rfl ?_
          refine LR.v (Y.move rfl rfl) (Wd.u rfl) rfl rfl ?_
          refine LR.v (Y.move rfl rfl) (Wd.g rfl rfl rfl) rfl rfl ?_
          -- call selvage/selvagelaw12.kept
          refine LR.call rfl Try.call17 rfl (Wd.g rfl rfl rfl) rfl rfl (kept_ct _ _ w0 H2 hos hp2 (by omega)) (fun v141 H141 r141 => ?_)
          obtain ⟨rfl, rfl⟩ := r141
          rw [keptE_script]
          refine LR.v (Y.move rfl rfl) (Wd.g rfl rfl rfl) rfl rfl ?_
          refine LR.v (Y.len ha2 rfl Try.runUnderlying22 rfl) (Wd.g rfl rfl rfl) rfl rfl ?_
          refine LR.v ((Y.eql rfl rfl rfl).isT (by rw [lcs_self])) (Wd.g rfl rfl rfl) rfl rfl ?_
          refine LR.v (Y.pick_t rfl rfl rfl) (Wd.u rfl) rfl rfl ?_
          refine LR.v (Y.move rfl rfl) (Wd.u rfl) rfl rfl ?_
          refine LR.v (Y.move rfl rfl) (Wd.g rfl rfl rfl) rfl rfl ?_
          refine LR.v (Y.len hos rfl Try.runUnderlying25 rfl) (Wd.g rfl rfl rfl) rfl rfl ?_
          refine LR.v (Y.move rfl rfl) (Wd.g rfl rfl rfl) rfl rfl ?_
          refine LR.v (Y.len ha2 rfl Try.runUnderlying22 rfl) (Wd.g rfl rfl rfl) rfl rfl ?_
          refine LR.v (Y.mini rfl rfl rfl) (Wd.g rfl rfl rfl) rfl rfl ?_
          refine LR.v ((Y.eql rfl rfl rfl).isT (by rw [script_self]; omega)) (Wd.g rfl rfl rfl) rfl rfl ?_
          refine LR.v (Y.pick_t rfl rfl rfl) (Wd.u rfl) rfl rfl ?_
          refine LR.v (Y.assign rfl rfl) (Wd.u rfl) rfl rfl ?_
          refine LR.nil ?_
          refine hK44 _ _ ?_
          refine CW.ret (hret .ret (.inr rfl) _ _ _ (res1 rfl rfl) ?_)
          exact ⟨rfl, hs⟩

end Go.Proofs.Ytkofoccjnoenlaa.LinH
