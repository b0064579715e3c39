/-
  Names of a path; whether one file may be a tree.
-/
import Derived.Test.YtclhnkmkejijjaaRenI
namespace Go.Proofs.Ytclhnkmkejijjaa.RenL
open Go.Proofs.Ytclhnkmkejijjaa.E Go.RowKit Go.Proofs.Ytclhnkmkejijjaa.RenA Go.Proofs.Ytclhnkmkejijjaa.RenB Go.Proofs.Ytclhnkmkejijjaa.RenC Go.Proofs.Ytclhnkmkejijjaa.RenD Go.Proofs.Ytclhnkmkejijjaa.RenE Go.Proofs.Ytclhnkmkejijjaa.RenF Go.Proofs.Ytclhnkmkejijjaa.RenG Go.Proofs.Ytclhnkmkejijjaa.RenH Go.Proofs.Ytclhnkmkejijjaa.RenI
set_option maxRecDepth 20000
set_option linter.unusedVariables false
set_option linter.unusedSimpArgs false
set_option linter.unusedSectionVars false
set_option maxRecDepth 100000 in
theorem inf41 : Inf Try.prog 41 9 1 16 := ⟨Try.underlying41, _, _, rfl, rfl, rfl, rfl, rfl⟩

def nameOk (s : List UInt8) : Bool := if s.length < 1 ∨ s.length > 40 ∨ s = [46] ∨ s = [46, 46] then false else s.all (fun c => decide (c ≠ 47) && decide (c ≠ 0))
theorem nameOk_all {s : List UInt8} (h0 : ¬ (s.length < 1 ∨ s.length > 40 ∨ s = [46] ∨ s = [46, 46])) (h : ∀ q (h : q < s.length), s[q] ≠ 47 ∧ s[q] ≠ 0) : nameOk s = true := by
  rw [nameOk, if_neg h0, List.all_eq_true]
  intro c hc
  obtain ⟨q, hq, rfl⟩ := List.mem_iff_getElem.1 hc
  simp [h q hq]
theorem nameOk_no {s : List UInt8} {q : Nat} (hq : q < s.length) (h : s[q] = 47 ∨ s[q] = 0) : nameOk s = false := by
  unfold nameOk
  split
  · rfl
  · rw [List.all_eq_false]
    exact ⟨s[q], List.getElem_mem hq, by rcases h with h | h <;> simp [h]⟩
/-- a text's pieces between its slashes -/
def spl (cur : List UInt8) : List UInt8 → List (List UInt8)
  | [] => [cur]
  | c :: l => if c = 47 then cur :: spl [] l else spl (cur ++ [c]) l
def namesL (p : List UInt8) : List (List UInt8) := if (spl [] p).all nameOk = true ∧ (spl [] p).length ≤ 8 then spl [] p else []
theorem namesL_bad {p x : List UInt8} (h : x ∈ spl [] p) (hx : nameOk x = false) : namesL p = [] := by
  rw [namesL, if_neg]
  rintro ⟨h1, _⟩
  have := List.all_eq_true.1 h1 x h
  rw [hx] at this; cases this
theorem namesL_ok {p : List UInt8} (h : ∀ x ∈ spl [] p, nameOk x = true) : namesL p = if (spl [] p).length ≤ 8 then spl [] p else [] := by
  unfold namesL
  have h1 : (spl [] p).all nameOk = true := List.all_eq_true.2 h
  by_cases h2 : (spl [] p).length ≤ 8
  · rw [if_pos ⟨h1, h2⟩, if_pos h2]
  · rw [if_neg (fun h => h2 h.2), if_neg h2]
/-- how far a path is taken to its names -/
def Nst (p : List UInt8) (i f : Nat) (l : List (List UInt8)) : Prop := (i ≤ p.length ∧ f ≤ i ∧ l ++ spl ((p.take i).drop f) (p.drop i) = spl [] p) ∨ (i = p.length + 1 ∧ l = spl [] p)
theorem Nst.cut {p : List UInt8} {i f : Nat} {l : List (List UInt8)} (h : Nst p i f l) (hi : i ≤ p.length) (h2 : i = p.length ∨ ∃ h : i < p.length, p[i] = 47) : (p.take i).drop f ∈ spl [] p ∧ Nst p (i + 1) (i + 1) (l ++ [(p.take i).drop f]) := by
  rcases h with ⟨_, hf, h⟩ | ⟨h, _⟩
  · rcases h2 with rfl | ⟨hlt, h2⟩
    · rw [List.drop_of_length_le (Nat.le_refl _), spl] at h
      exact ⟨by rw [← h]; simp, .inr ⟨rfl, h⟩⟩
    · rw [List.drop_eq_getElem_cons hlt, spl, if_pos h2] at h
      refine ⟨by rw [← h]; simp, .inl ⟨by omega, Nat.le_refl _, ?_⟩⟩
      have e : (p.take (i + 1)).drop (i + 1) = [] := by rw [List.drop_eq_nil_of_le]; rw [List.length_take]; omega
      rw [e, ← h]; simp
  · omega
theorem Nst.go {p : List UInt8} {i f : Nat} {l : List (List UInt8)} (h : Nst p i f l) (hi : i < p.length) (h2 : p[i] ≠ 47) : Nst p (i + 1) f l := by
  rcases h with ⟨_, hf, h⟩ | ⟨h, _⟩
  · refine .inl ⟨by omega, by omega, ?_⟩
    rw [List.drop_eq_getElem_cons hi, spl, if_neg h2] at h
    rw [← h, List.take_succ_eq_append_getElem hi, List.drop_append_of_le_length (by rw [List.length_take]; omega)]
  · omega
theorem Nst.done {p : List UInt8} {i f : Nat} {l : List (List UInt8)} (h : Nst p i f l) (hi : ¬ i ≤ p.length) : l = spl [] p := by
  rcases h with ⟨h, _⟩ | ⟨_, h⟩
  · exact absurd h hi
  · exact h
theorem Nst.f {p : List UInt8} {i f : Nat} {l : List (List UInt8)} (h : Nst p i f l) (hi : i ≤ p.length) : f ≤ i := by
  rcases h with ⟨_, h, _⟩ | ⟨h, _⟩
  · exact h
  · omega
def belowL (p up : List UInt8) : Bool := decide (up.length < p.length) && decide (p.take up.length = up) && decide (p[up.length]? = some 47)
theorem below_eq {p up : List UInt8} (h : up.length < p.length) (h2 : p.take up.length = up) : belowL p up = decide ((p[up.length].toNat : Int) = 47) := by
  unfold belowL
  rw [List.getElem?_eq_getElem h, decide_eq_true h, decide_eq_true h2, Bool.true_and, Bool.true_and, decide_eq_decide, Option.some.injEq]
  constructor
  · intro e; rw [e]; rfl
  · intro e; apply UInt8.toNat_inj.1; have : (47 : UInt8).toNat = 47 := rfl; omega
theorem below_no {p up : List UInt8} (h : ¬ (up.length < p.length ∧ p.take up.length = up)) : belowL p up = false := by
  unfold belowL
  by_cases h1 : up.length < p.length
  · have h2 : ¬ p.take up.length = up := fun e => h ⟨h1, e⟩
    simp [h2]
  · simp [h1]
/-- why one file is no tree: its kind, its path, its length -/
def chkF (x : Fc) : Int := if x.2.1 < 1 ∨ 3 < x.2.1 then 3 else if (namesL x.1).length = 0 then 7 else if 65536 < x.2.2.length then 5 else 0

theorem name_ct (s : List UInt8) (w0 : World) (H0 : Heap)
    (hl : s.length ≤ 1099511627776) :
    Ct Try.prog w0 40 #[Str s] H0 (fun r H2 => r = .bool (nameOk s) ∧ Nw H0 H2) := by
  refine Ct.enter (args := [Str s]) Try.func40 rfl rfl rfl ?_
  intro Q0 hret
  have hm0 : Nw H0 H0 := Mo.refl _ _
  refine CW.seq (fun K1 hK1 hE1 => ?_)
  refine CW.region ?_
  refine LR.v (Y.assign rfl rfl) (Wd.u rfl) rfl rfl ?_
  refine LR.nil ?_
  refine hK1 _ _ ?_
  refine CW.seq (fun K2 hK2 hE2 => ?_)
  refine CW.seq (fun K3 hK3 hE3 => ?_)
  refine CW.region ?_
  refine LR.v (Y.move rfl rfl) (Wd.u rfl) rfl rfl ?_
  refine LR.v (Y.slen rfl Try.runUnderlying9 rfl) (Wd.u rfl) rfl rfl ?_
  refine LR.v (Y.lss rfl rfl rfl) (Wd.u rfl) rfl rfl ?_
  refine LR.v (Y.move rfl rfl) (Wd.u rfl) rfl rfl ?_
  refine LR.splitp (d := 7) rfl (fun g7 => ?_) (fun g7 => ?_)
  ·
    refine LR.gs rfl rfl rfl rfl rfl rfl ?_
    refine LR.gs rfl rfl rfl rfl rfl rfl ?_
    refine LR.gs rfl rfl rfl rfl rfl rfl ?_
    refine LR.v (Y.pick_t rfl rfl rfl) (Wd.u rfl) rfl rfl ?_
    refine LR.v (Y.move rfl rfl) (Wd.u rfl) rfl rfl ?_
    refine LR.gs rfl rfl rfl rfl rfl rfl ?_
    refine LR.gs rfl rfl rfl rfl rfl rfl ?_
    refine LR.v (Y.pick_t rfl rfl rfl) (Wd.u rfl) rfl rfl ?_
    refine LR.v (Y.move rfl rfl) (Wd.u rfl) rfl rfl ?_
    refine LR.gs rfl rfl rfl rfl rfl rfl ?_
    refine LR.gs rfl rfl rfl rfl rfl rfl ?_
    refine LR.v (Y.pick_t rfl rfl rfl) (Wd.u rfl) rfl rfl ?_
    refine LR.nil ?_
    refine hK3 _ _ ?_
    refine CW.cond_t rfl ?_
    refine CW.seq (fun K4 hK4 hE4 => ?_)
    refine CW.region ?_
    refine LR.v (Y.assign rfl rfl) (Wd.u rfl) rfl rfl ?_
    refine LR.nil ?_
    refine hK4 _ _ ?_
    refine CW.ret (hE2 .ret nofun _ _ (hret .ret (.inr rfl) _ _ _ (res1 rfl rfl) ?_))
    exact ⟨by rw [nameOk, if_pos (by first | exact .inl (by omega) | exact .inr (.inl (by omega)) | exact .inr (.inr (.inl (by assumption))) | exact .inr (.inr (.inr (by assumption))))], hm0⟩
  ·
    refine LR.v (Y.move rfl rfl) (Wd.g rfl rfl rfl) rfl rfl ?_
    refine LR.v (Y.slen rfl Try.runUnderlying9 rfl) (Wd.g rfl rfl rfl) rfl rfl ?_
    refine LR.v (Y.gtr rfl rfl rfl) (Wd.g rfl rfl rfl) rfl rfl ?_
    refine LR.v (Y.pick_f rfl rfl rfl) (Wd.u rfl) rfl rfl ?_
    refine LR.v (Y.move rfl rfl) (Wd.u rfl) rfl rfl ?_
    refine LR.splitp (d := 12) rfl (fun g12 => ?_) (fun g12 => ?_)
    ·
      refine LR.gs rfl rfl rfl rfl rfl rfl ?_
      refine LR.gs rfl rfl rfl rfl rfl rfl ?_
      refine LR.v (Y.pick_t rfl rfl rfl) (Wd.u rfl) rfl rfl ?_
      refine LR.v (Y.move rfl rfl) (Wd.u rfl) rfl rfl ?_
      refine LR.gs rfl rfl rfl rfl rfl rfl ?_
      refine LR.gs rfl rfl rfl rfl rfl rfl ?_
      refine LR.v (Y.pick_t rfl rfl rfl) (Wd.u rfl) rfl rfl ?_
      refine LR.nil ?_
      refine hK3 _ _ ?_
      refine CW.cond_t rfl ?_
      refine CW.seq (fun K5 hK5 hE5 => ?_)
      refine CW.region ?_
      refine LR.v (Y.assign rfl rfl) (Wd.u rfl) rfl rfl ?_
      refine LR.nil ?_
      refine hK5 _ _ ?_
      refine CW.ret (hE2 .ret nofun _ _ (hret .ret (.inr rfl) _ _ _ (res1 rfl rfl) ?_))
      exact ⟨by rw [nameOk, if_pos (by first | exact .inl (by omega) | exact .inr (.inl (by omega)) | exact .inr (.inr (.inl (by assumption))) | exact .inr (.inr (.inr (by assumption))))], hm0⟩
    ·
      refine LR.v (Y.move rfl rfl) (Wd.g rfl rfl rfl) rfl rfl ?_
      refine LR.v (Y.seql rfl rfl rfl) (Wd.g rfl rfl rfl) rfl rfl ?_
      refine LR.v (Y.pick_f rfl rfl rfl) (Wd.u rfl) rfl rfl ?_
      refine LR.v (Y.move rfl rfl) (Wd.u rfl) rfl rfl ?_
      refine LR.splitp (d := 16) rfl (fun g16 => ?_) (fun g16 => ?_)
      ·
        refine LR.gs rfl rfl rfl rfl rfl rfl ?_
        refine LR.gs rfl rfl rfl rfl rfl rfl ?_
        refine LR.v (Y.pick_t rfl rfl rfl) (Wd.u rfl) rfl rfl ?_
        refine LR.nil ?_
        refine hK3 _ _ ?_
        refine CW.cond_t rfl ?_
        refine CW.seq (fun K6 hK6 hE6 => ?_)
        refine CW.region ?_
        refine LR.v (Y.assign rfl rfl) (Wd.u rfl) rfl rfl ?_
        refine LR.nil ?_
        refine hK6 _ _ ?_
        refine CW.ret (hE2 .ret nofun _ _ (hret .ret (.inr rfl) _ _ _ (res1 rfl rfl) ?_))
        exact ⟨by rw [nameOk, if_pos (by first | exact .inl (by omega) | exact .inr (.inl (by omega)) | exact .inr (.inr (.inl (by assumption))) | exact .inr (.inr (.inr (by assumption))))], hm0⟩
      ·
        refine LR.v (Y.move rfl rfl) (Wd.g rfl rfl rfl) rfl rfl ?_
        refine LR.v (Y.seql rfl rfl rfl) (Wd.g rfl rfl rfl) rfl rfl ?_
        refine LR.v (Y.pick_f rfl rfl rfl) (Wd.u rfl) rfl rfl ?_
        refine LR.nil ?_
        refine hK3 _ _ ?_
        refine CW.condp rfl (fun c19 => ?_) (fun c19 => ?_)
        ·
          refine CW.seq (fun K7 hK7 hE7 => ?_)
          refine CW.region ?_
          refine LR.v (Y.assign rfl rfl) (Wd.u rfl) rfl rfl ?_
          refine LR.nil ?_
          refine hK7 _ _ ?_
          refine CW.ret (hE2 .ret nofun _ _ (hret .ret (.inr rfl) _ _ _ (res1 rfl rfl) ?_))
          exact ⟨by rw [nameOk, if_pos (by first | exact .inl (by omega) | exact .inr (.inl (by omega)) | exact .inr (.inr (.inl (by assumption))) | exact .inr (.inr (.inr (by assumption))))], hm0⟩
        ·
          have hno : ¬ (s.length < 1 ∨ s.length > 40 ∨ s = [46] ∨ s = [46, 46]) := by rintro (h | h | h | h) <;> first | omega | contradiction
          refine CW.skip ?_
          refine hK2 _ _ ?_
          refine CW.seq (fun K8 hK8 hE8 => ?_)
          refine CW.seq (fun K9 hK9 hE9 => ?_)
          refine CW.region ?_
          refine LR.v (Y.assign rfl rfl) (Wd.u rfl) rfl rfl ?_
          refine LR.nil ?_
          refine hK9 _ _ ?_
          refine CW.block (fun K10 hK10 hX10 hE10 => ?_)
          refine CW.loop (fun (i : (Nat)) => [(0, Str s), (3, .int .i64 i)])
            (fun (i : (Nat)) (H : Heap) => (i ≤ s.length) ∧ (∀ q (h : q < s.length), q < i → s[q] ≠ 47 ∧ s[q] ≠ 0) ∧ Nw H0 H)
            (fun (i : (Nat)) => s.length - i) 0 ⟨rfl, rfl, trivial⟩ ?_ ?_
          ·
            exact ⟨(by omega), (fun q h h2 => absurd h2 (Nat.not_lt_zero _)), Mo.refl _ _⟩
          intro i HL1 hI1 K11 hN11 hE11
          obtain ⟨hi, hq_, hlm1⟩ := hI1
          replace hm0 := hm0.tr hlm1
          have hz1 := hlm1.size
          refine CW.seq (fun K12 hK12 hE12 => ?_)
          refine CW.seq (fun K13 hK13 hE13 => ?_)
          refine CW.region ?_
          refine LR.v (Y.move rfl rfl) (Wd.u rfl) rfl rfl ?_
          refine LR.v (Y.move rfl rfl) (Wd.u rfl) rfl rfl ?_
          refine LR.v (Y.slen rfl Try.runUnderlying9 rfl) (Wd.u rfl) rfl rfl ?_
          refine LR.v (Y.lss rfl rfl rfl) (Wd.u rfl) rfl rfl ?_
          refine LR.nil ?_
          refine hK13 _ _ ?_
          refine CW.condp rfl (fun c23 => ?_) (fun c23 => ?_)
          ·
            refine CW.skip ?_
            refine hK12 _ _ ?_
            refine CW.seq (fun K14 hK14 hE14 => ?_)
            refine CW.block (fun K15 hK15 hX15 hE15 => ?_)
            refine CW.seq (fun K16 hK16 hE16 => ?_)
            refine CW.region ?_
            refine LR.v (Y.move rfl rfl) (Wd.u rfl) rfl rfl ?_
            refine LR.v (Y.move rfl rfl) (Wd.u rfl) rfl rfl ?_
            refine LR.v (Y.sindex (i) rfl Try.runUnderlying9 rfl rfl (by first | rfl | omega) (by omega)) (Wd.u rfl) rfl rfl ?_
            refine LR.v (Y.eql rfl rfl rfl) (Wd.u rfl) rfl rfl ?_
            refine LR.v (Y.move rfl rfl) (Wd.u rfl) rfl rfl ?_
            refine LR.splitp (d := 30) rfl (fun g30 => ?_) (fun g30 => ?_)
            ·
              refine LR.gs rfl rfl rfl rfl rfl rfl ?_
              refine LR.gs rfl rfl rfl rfl rfl rfl ?_
              refine LR.gs rfl rfl rfl rfl rfl rfl ?_
              refine LR.gs rfl rfl rfl rfl rfl rfl ?_
              refine LR.v (Y.pick_t rfl rfl rfl) (Wd.u rfl) rfl rfl ?_
              refine LR.nil ?_
              refine hK16 _ _ ?_
              refine CW.cond_t rfl ?_
              refine CW.seq (fun K17 hK17 hE17 => ?_)
              refine CW.region ?_
              refine LR.v (Y.assign rfl rfl) (Wd.u rfl) rfl rfl ?_
              refine LR.nil ?_
              refine hK17 _ _ ?_
              refine CW.ret (hE15 .ret nofun (by simp) _ _ (hE14 .ret nofun _ _ (hE11 .ret nofun _ _ (hE10 .ret nofun (by simp) _ _ (hE8 .ret nofun _ _ (hret .ret (.inr rfl) _ _ _ (res1 rfl rfl) ?_))))))
              have hil : i < s.length := by omega
              exact ⟨by rw [nameOk_no hil (by first | exact .inl (UInt8.toNat_inj.1 (by have := g30; simp at this ⊢; omega)) | exact .inr (UInt8.toNat_inj.1 (by have := c35; simp at this ⊢; omega)))], hm0⟩
            ·
              refine LR.v (Y.move rfl rfl) (Wd.g rfl rfl rfl) rfl rfl ?_
              refine LR.v (Y.move rfl rfl) (Wd.g rfl rfl rfl) rfl rfl ?_
              refine LR.v (Y.sindex (i) rfl Try.runUnderlying9 rfl rfl (by first | rfl | omega) (by omega)) (Wd.g rfl rfl rfl) rfl rfl ?_
              refine LR.v (Y.eql rfl rfl rfl) (Wd.g rfl rfl rfl) rfl rfl ?_
              refine LR.v (Y.pick_f rfl rfl rfl) (Wd.u rfl) rfl rfl ?_
              refine LR.nil ?_
              refine hK16 _ _ ?_
              refine CW.condp rfl (fun c35 => ?_) (fun c35 => ?_)
              ·
                refine CW.seq (fun K18 hK18 hE18 => ?_)
                refine CW.region ?_
                refine LR.v (Y.assign rfl rfl) (Wd.u rfl) rfl rfl ?_
                refine LR.nil ?_
                refine hK18 _ _ ?_
                refine CW.ret (hE15 .ret nofun (by simp) _ _ (hE14 .ret nofun _ _ (hE11 .ret nofun _ _ (hE10 .ret nofun (by simp) _ _ (hE8 .ret nofun _ _ (hret .ret (.inr rfl) _ _ _ (res1 rfl rfl) ?_))))))
                have hil : i < s.length := by omega
                exact ⟨by rw [nameOk_no hil (by first | exact .inl (UInt8.toNat_inj.1 (by have := g30; simp at this ⊢; omega)) | exact .inr (UInt8.toNat_inj.1 (by have := c35; simp at this ⊢; omega)))], hm0⟩
              ·
                refine CW.skip ?_
                refine hK15 _ _ ?_
                refine hK14 _ _ ?_
                refine CW.region ?_
                refine LR.v (Y.move rfl rfl) (Wd.u rfl) rfl rfl ?_
                refine LR.v (Y.addi rfl rfl rfl (by omega)) (Wd.u rfl) rfl rfl ?_
                refine LR.v (Y.assign rfl rfl) (Wd.u rfl) rfl rfl ?_
                refine LR.nil ?_
                refine QN.sub (hN11 (i + 1) _ ?_ ?_) ⟨rfl, (iv (by omega)), trivial⟩
                · exact ⟨(by omega), (fun q h h2 => by rcases Nat.lt_succ_iff_lt_or_eq.1 h2 with h5 | rfl; exact hq_ q h h5; exact ⟨fun e => g30 (by rw [e]; rfl), fun e => c35 (by rw [e]; rfl)⟩), hlm1⟩
                · first | omega | (simp only; omega) | (simp; omega)
          ·
            refine CW.exit (hE12 (.exit 0) nofun _ _ (hE11 (.exit 0) nofun _ _ (hX10 _ _ ?_)))
            refine hK8 _ _ ?_
            refine CW.seq (fun K19 hK19 hE19 => ?_)
            refine CW.region ?_
            refine LR.v (Y.assign rfl rfl) (Wd.u rfl) rfl rfl ?_
            refine LR.nil ?_
            refine hK19 _ _ ?_
            refine CW.ret (hret .ret (.inr rfl) _ _ _ (res1 rfl rfl) ?_)
            exact ⟨by rw [nameOk_all hno (fun q h => hq_ q h (by omega))], hm0⟩

set_option maxHeartbeats 4000000 in
theorem names_ct (p : List UInt8) (w0 : World) (H0 : Heap)
    (hl : p.length ≤ 1099511627776) :
    Ct Try.prog w0 21 #[Str p] H0 (fun r H2 => ∃ v : Value, ∃ k : Nat, r = v ∧ (Ow k 9 H2 fS 1 v (namesL p)) ∧ (Nx 0 H0.size k) ∧ Nw H0 H2) := by
  refine Ct.enter (args := [Str p]) Try.func21 rfl rfl rfl ?_
  intro Q0 hret
  have hm0 : Nw H0 H0 := Mo.refl _ _
  refine CW.seq (fun K1 hK1 hE1 => ?_)
  refine CW.region ?_
  refine LR.v (Y.assign rfl rfl) (Wd.u rfl) rfl rfl ?_
  refine LR.nil ?_
  refine hK1 _ _ ?_
  refine CW.seq (fun K2 hK2 hE2 => ?_)
  refine CW.region ?_
  refine LR.v (Y.assign rfl rfl) (Wd.u rfl) rfl rfl ?_
  refine LR.nil ?_
  refine hK2 _ _ ?_
  refine CW.seq (fun K3 hK3 hE3 => ?_)
  refine CW.region ?_
  refine LR.v (Y.assign rfl rfl) (Wd.u rfl) rfl rfl ?_
  refine LR.nil ?_
  refine hK3 _ _ ?_
  refine CW.seq (fun K4 hK4 hE4 => ?_)
  refine CW.seq (fun K5 hK5 hE5 => ?_)
  refine CW.region ?_
  refine LR.v (Y.assign rfl rfl) (Wd.u rfl) rfl rfl ?_
  refine LR.nil ?_
  refine hK5 _ _ ?_
  refine CW.block (fun K6 hK6 hX6 hE6 => ?_)
  refine CW.loop (fun (s_ : (Nat) × (Nat) × (Value) × (Nat) × (List (List UInt8))) => match s_ with | (i, f, vo, ko, l) => [(0, Str p), (3, vo), (4, .int .i64 f), (5, .int .i64 i)])
    (fun (s_ : (Nat) × (Nat) × (Value) × (Nat) × (List (List UInt8))) (H : Heap) => match s_ with | (i, f, vo, ko, l) => (i ≤ p.length + 1) ∧ (Ow ko 9 H fS 1 vo l) ∧ (Nst p i f l) ∧ (∀ x ∈ l, nameOk x = true) ∧ (l.length ≤ i) ∧ (Nx 0 H0.size ko) ∧ Nw H0 H)
    (fun (s_ : (Nat) × (Nat) × (Value) × (Nat) × (List (List UInt8))) => match s_ with | (i, f, vo, ko, l) => p.length + 1 - i) (0, 0, .slice none 0 0, 0, []) ⟨rfl, rfl, rfl, rfl, trivial⟩ ?_ ?_
  ·
    exact ⟨(by omega), Ow.nil fS_len fS_one, (.inl ⟨Nat.zero_le _, Nat.le_refl _, rfl⟩), (fun x h => by cases h), (by simp), Nx.refl _ _, Mo.refl _ _⟩
  rintro ⟨i, f, vo, ko, l⟩ HL1 hI1 K7 hN7 hE7
  obtain ⟨hi, ow, hst, hok, hll, nxl_ow, hlm1⟩ := hI1
  have nx1 : Nx 0 H0.size ko := Nx.tr (Nx.refl 0 _) nxl_ow hm0.size
  replace hm0 := hm0.tr hlm1
  have hz1 := hlm1.size
  have hle_ow := ow.le
  have nx2 := nxl_ow
  refine CW.seq (fun K8 hK8 hE8 => ?_)
  refine CW.seq (fun K9 hK9 hE9 => ?_)
  refine CW.region ?_
  refine LR.v (Y.move rfl rfl) (Wd.u rfl) rfl rfl ?_
  refine LR.v (Y.move rfl rfl) (Wd.u rfl) rfl rfl ?_
  refine LR.v (Y.slen rfl Try.runUnderlying9 rfl) (Wd.u rfl) rfl rfl ?_
  refine LR.v (Y.leq rfl rfl rfl) (Wd.u rfl) rfl rfl ?_
  refine LR.nil ?_
  refine hK9 _ _ ?_
  refine CW.condp rfl (fun c9 => ?_) (fun c9 => ?_)
  ·
    refine CW.skip ?_
    refine hK8 _ _ ?_
    refine CW.seq (fun K10 hK10 hE10 => ?_)
    refine CW.block (fun K11 hK11 hX11 hE11 => ?_)
    refine CW.seq (fun K12 hK12 hE12 => ?_)
    refine CW.region ?_
    refine LR.v (Y.move rfl rfl) (Wd.u rfl) rfl rfl ?_
    refine LR.v (Y.move rfl rfl) (Wd.u rfl) rfl rfl ?_
    refine LR.v (Y.slen rfl Try.runUnderlying9 rfl) (Wd.u rfl) rfl rfl ?_
    refine LR.v (Y.eql rfl rfl rfl) (Wd.u rfl) rfl rfl ?_
    refine LR.v (Y.move rfl rfl) (Wd.u rfl) rfl rfl ?_
    refine LR.splitp (d := 16) rfl (fun g16 => ?_) (fun g16 => ?_)
    ·
      refine LR.gs rfl rfl rfl rfl rfl rfl ?_
      refine LR.gs rfl rfl rfl rfl rfl rfl ?_
      refine LR.gs rfl rfl rfl rfl rfl rfl ?_
      refine LR.gs rfl rfl rfl rfl rfl rfl ?_
      refine LR.v (Y.pick_t rfl rfl rfl) (Wd.u rfl) rfl rfl ?_
      refine LR.nil ?_
      refine hK12 _ _ ?_
      refine CW.cond_t rfl ?_
      refine CW.seq (fun K13 hK13 hE13 => ?_)
      refine CW.seq (fun K14 hK14 hE14 => ?_)
      refine CW.region ?_
      refine LR.v (Y.move rfl rfl) (Wd.u rfl) rfl rfl ?_
      refine LR.v (Y.move rfl rfl) (Wd.u rfl) rfl rfl ?_
      refine LR.v (Y.move rfl rfl) (Wd.u rfl) rfl rfl ?_
      have hil : i ≤ p.length := by omega
      have hfi := hst.f hil
      obtain ⟨hmem, hcut⟩ := hst.cut hil (by first | exact .inl (by omega) | exact .inr ⟨by omega, UInt8.toNat_inj.1 (by have := c21; simp at this ⊢; omega)⟩)
      refine LR.v (Y.sslice (f) (i) rfl Try.runUnderlying9 rfl (.inr ⟨_, _, _, rfl, rfl, by first | rfl | omega⟩) (.inr ⟨_, _, _, rfl, rfl, by first | rfl | omega⟩) (by omega) (by omega)) (Wd.u rfl) rfl rfl ?_
      -- call selvage/selvageref4.Name
      refine LR.call rfl Try.call40 rfl (Wd.u rfl) rfl rfl (name_ct ((p.take i).drop f) w0 _ (by rw [List.length_drop, List.length_take]; omega)) (fun v26 H26 r26 => ?_)
      obtain ⟨rfl, hs26⟩ := r26
      replace ow := ow.nw hs26
      replace hm0 := hm0.tr hs26
      replace hlm1 := hlm1.tr hs26
      have hz2 := hs26.size
      refine LR.v (Y.not rfl rfl) (Wd.u rfl) rfl rfl ?_
      refine LR.nil ?_
      refine hK14 _ _ ?_
      refine CW.cond rfl (fun c27 => ?_) (fun c27 => ?_)
      ·
        have hnm : nameOk ((p.take i).drop f) = false := by simpa using c27
        refine CW.seq (fun K15 hK15 hE15 => ?_)
        refine CW.region ?_
        refine LR.v (Y.assign rfl rfl) (Wd.u rfl) rfl rfl ?_
        refine LR.nil ?_
        refine hK15 _ _ ?_
        refine CW.ret (hE13 .ret nofun _ _ (hE11 .ret nofun (by simp) _ _ (hE10 .ret nofun _ _ (hE7 .ret nofun _ _ (hE6 .ret nofun (by simp) _ _ (hE4 .ret nofun _ _ (hret .ret (.inr rfl) _ _ _ (res1 rfl rfl) ?_)))))))
        exact ⟨.slice none 0 0, 0, rfl, by rw [namesL_bad hmem hnm]; exact Ow.nil fS_len fS_one, Nx.refl _ _, hm0⟩
      ·
        have hnm : nameOk ((p.take i).drop f) = true := by simpa using c27
        refine CW.skip ?_
        refine hK13 _ _ ?_
        refine CW.seq (fun K16 hK16 hE16 => ?_)
        refine CW.region ?_
        refine LR.v (Y.move rfl rfl) (Wd.u rfl) rfl rfl ?_
        refine LR.v (Y.move rfl rfl) (Wd.u rfl) rfl rfl ?_
        refine LR.v (Y.move rfl rfl) (Wd.u rfl) rfl rfl ?_
        refine LR.v (Y.move rfl rfl) (Wd.u rfl) rfl rfl ?_
        refine LR.v (Y.sslice (f) (i) rfl Try.runUnderlying9 rfl (.inr ⟨_, _, _, rfl, rfl, by first | rfl | omega⟩) (.inr ⟨_, _, _, rfl, rfl, by first | rfl | omega⟩) (by omega) (by omega)) (Wd.u rfl) rfl rfl ?_
        refine LR.z (Z.litw _ ([(p.take i).drop f]) rfl inf41 rfl rfl rfl (by decide) (by decide) fS_len fS_one (rfl)) (Wd.u rfl) rfl rfl (fun v33 H33 r33 => ?_)
        obtain ⟨nw33, hs33, ob33, hH33⟩ := r33
        have hzs33 : H33.size = H26.size + 1 := by rw [hH33]; simp
        have dj3 : Dj ko (H26.size + 1) := Dj.new ow.le
        have nx4 : Nx 0 H0.size (H26.size + 1) := Nx.new hm0.size
        have nx5 : Nx 0 H0.size (H26.size + 1) := Nx.new hlm1.size
        replace ow := ow.nw hs33
        replace hm0 := hm0.tr hs33
        replace hlm1 := hlm1.tr hs33
        have hz3 := hs33.size
        refine LR.z (Z.apnd ow nw33.rd rfl inf41 rfl rfl (by simp; omega) (by simp; omega)) (Wd.u rfl) rfl rfl (fun v34 H34 r34 => ?_)
        obtain ⟨k34, ow, hk34, hs34⟩ := r34
        replace hk34 : Nx ko H33.size k34 := hk34
        replace hs34 := hs34.md
        have dj6 : Dj (H26.size + 1) k34 := Dj.app (dj3.symm) nw33.le hk34
        have nx7 : Nx 0 H0.size k34 := Nx.tr (nx1) hk34 hm0.size
        have nx8 : Nx 0 H0.size k34 := Nx.tr (nx2) hk34 hlm1.size
        replace nw33 := nw33.upL hs34 (DL.cons dj3.symm DL.nil)
        replace hm0 := (Mo.trL (ks := []) (hm0.mdn []) hs34 (MIL.cons (MI.app MI.z (nx1) (Nat.le_refl _)) MIL.nil)).nil
        replace hlm1 := (Mo.trL (ks := []) (hlm1.mdn []) hs34 (MIL.cons (MI.app MI.z (nx2) (Nat.le_refl _)) MIL.nil)).nil
        have hz4 := hs34.size
        have hle_ow := ow.le
        refine LR.v (Y.assign rfl rfl) (Wd.u rfl) rfl rfl ?_
        refine LR.nil ?_
        refine hK16 _ _ ?_
        refine CW.region ?_
        refine LR.v (Y.move rfl rfl) (Wd.u rfl) rfl rfl ?_
        refine LR.v (Y.addi rfl rfl rfl (by omega)) (Wd.u rfl) rfl rfl ?_
        refine LR.v (Y.assign rfl rfl) (Wd.u rfl) rfl rfl ?_
        refine LR.nil ?_
        refine hK11 _ _ ?_
        refine hK10 _ _ ?_
        refine CW.region ?_
        refine LR.v (Y.move rfl rfl) (Wd.u rfl) rfl rfl ?_
        refine LR.v (Y.addi rfl rfl rfl (by omega)) (Wd.u rfl) rfl rfl ?_
        refine LR.v (Y.assign rfl rfl) (Wd.u rfl) rfl rfl ?_
        refine LR.nil ?_
        refine QN.sub (hN7 (i + 1, i + 1, v34, k34, l ++ [(p.take i).drop f]) _ ?_ ?_) ⟨rfl, rfl, (iv (by omega)), (iv (by omega)), trivial⟩
        · exact ⟨(by omega), ow, hcut, (by intro x hx; rcases List.mem_append.1 hx with hx | hx; exact hok x hx; rw [List.mem_singleton] at hx; rw [hx]; exact hnm), (by simp; omega), nx8, hlm1⟩
        · first | omega | (simp only; omega) | (simp; omega)
    ·
      refine LR.v (Y.move rfl rfl) (Wd.g rfl rfl rfl) rfl rfl ?_
      refine LR.v (Y.move rfl rfl) (Wd.g rfl rfl rfl) rfl rfl ?_
      have hil9 : i < p.length := by omega
      refine LR.v (Y.sindex (i) rfl Try.runUnderlying9 rfl rfl (by first | rfl | omega) (by omega)) (Wd.g rfl rfl rfl) rfl rfl ?_
      refine LR.v (Y.eql rfl rfl rfl) (Wd.g rfl rfl rfl) rfl rfl ?_
      refine LR.v (Y.pick_f rfl rfl rfl) (Wd.u rfl) rfl rfl ?_
      refine LR.nil ?_
      refine hK12 _ _ ?_
      refine CW.condp rfl (fun c21 => ?_) (fun c21 => ?_)
      ·
        refine CW.seq (fun K17 hK17 hE17 => ?_)
        refine CW.seq (fun K18 hK18 hE18 => ?_)
        refine CW.region ?_
        refine LR.v (Y.move rfl rfl) (Wd.u rfl) rfl rfl ?_
        refine LR.v (Y.move rfl rfl) (Wd.u rfl) rfl rfl ?_
        refine LR.v (Y.move rfl rfl) (Wd.u rfl) rfl rfl ?_
        have hil : i ≤ p.length := by omega
        have hfi := hst.f hil
        obtain ⟨hmem, hcut⟩ := hst.cut hil (by first | exact .inl (by omega) | exact .inr ⟨by omega, UInt8.toNat_inj.1 (by have := c21; simp at this ⊢; omega)⟩)
        refine LR.v (Y.sslice (f) (i) rfl Try.runUnderlying9 rfl (.inr ⟨_, _, _, rfl, rfl, by first | rfl | omega⟩) (.inr ⟨_, _, _, rfl, rfl, by first | rfl | omega⟩) (by omega) (by omega)) (Wd.u rfl) rfl rfl ?_
        -- call selvage/selvageref4.Name
        refine LR.call rfl Try.call40 rfl (Wd.u rfl) rfl rfl (name_ct ((p.take i).drop f) w0 _ (by rw [List.length_drop, List.length_take]; omega)) (fun v26 H26 r26 => ?_)
        obtain ⟨rfl, hs26⟩ := r26
        replace ow := ow.nw hs26
        replace hm0 := hm0.tr hs26
        replace hlm1 := hlm1.tr hs26
        have hz5 := hs26.size
        refine LR.v (Y.not rfl rfl) (Wd.u rfl) rfl rfl ?_
        refine LR.nil ?_
        refine hK18 _ _ ?_
        refine CW.cond rfl (fun c27 => ?_) (fun c27 => ?_)
        ·
          have hnm : nameOk ((p.take i).drop f) = false := by simpa using c27
          refine CW.seq (fun K19 hK19 hE19 => ?_)
          refine CW.region ?_
          refine LR.v (Y.assign rfl rfl) (Wd.u rfl) rfl rfl ?_
          refine LR.nil ?_
          refine hK19 _ _ ?_
          refine CW.ret (hE17 .ret nofun _ _ (hE11 .ret nofun (by simp) _ _ (hE10 .ret nofun _ _ (hE7 .ret nofun _ _ (hE6 .ret nofun (by simp) _ _ (hE4 .ret nofun _ _ (hret .ret (.inr rfl) _ _ _ (res1 rfl rfl) ?_)))))))
          exact ⟨.slice none 0 0, 0, rfl, by rw [namesL_bad hmem hnm]; exact Ow.nil fS_len fS_one, Nx.refl _ _, hm0⟩
        ·
          have hnm : nameOk ((p.take i).drop f) = true := by simpa using c27
          refine CW.skip ?_
          refine hK17 _ _ ?_
          refine CW.seq (fun K20 hK20 hE20 => ?_)
          refine CW.region ?_
          refine LR.v (Y.move rfl rfl) (Wd.u rfl) rfl rfl ?_
          refine LR.v (Y.move rfl rfl) (Wd.u rfl) rfl rfl ?_
          refine LR.v (Y.move rfl rfl) (Wd.u rfl) rfl rfl ?_
          refine LR.v (Y.move rfl rfl) (Wd.u rfl) rfl rfl ?_
          refine LR.v (Y.sslice (f) (i) rfl Try.runUnderlying9 rfl (.inr ⟨_, _, _, rfl, rfl, by first | rfl | omega⟩) (.inr ⟨_, _, _, rfl, rfl, by first | rfl | omega⟩) (by omega) (by omega)) (Wd.u rfl) rfl rfl ?_
          refine LR.z (Z.litw _ ([(p.take i).drop f]) rfl inf41 rfl rfl rfl (by decide) (by decide) fS_len fS_one (rfl)) (Wd.u rfl) rfl rfl (fun v33 H33 r33 => ?_)
          obtain ⟨nw33, hs33, ob33, hH33⟩ := r33
          have hzs33 : H33.size = H26.size + 1 := by rw [hH33]; simp
          have dj9 : Dj ko (H26.size + 1) := Dj.new ow.le
          have nx10 : Nx 0 H0.size (H26.size + 1) := Nx.new hm0.size
          have nx11 : Nx 0 H0.size (H26.size + 1) := Nx.new hlm1.size
          replace ow := ow.nw hs33
          replace hm0 := hm0.tr hs33
          replace hlm1 := hlm1.tr hs33
          have hz6 := hs33.size
          refine LR.z (Z.apnd ow nw33.rd rfl inf41 rfl rfl (by simp; omega) (by simp; omega)) (Wd.u rfl) rfl rfl (fun v34 H34 r34 => ?_)
          obtain ⟨k34, ow, hk34, hs34⟩ := r34
          replace hk34 : Nx ko H33.size k34 := hk34
          replace hs34 := hs34.md
          have dj12 : Dj (H26.size + 1) k34 := Dj.app (dj9.symm) nw33.le hk34
          have nx13 : Nx 0 H0.size k34 := Nx.tr (nx1) hk34 hm0.size
          have nx14 : Nx 0 H0.size k34 := Nx.tr (nx2) hk34 hlm1.size
          replace nw33 := nw33.upL hs34 (DL.cons dj9.symm DL.nil)
          replace hm0 := (Mo.trL (ks := []) (hm0.mdn []) hs34 (MIL.cons (MI.app MI.z (nx1) (Nat.le_refl _)) MIL.nil)).nil
          replace hlm1 := (Mo.trL (ks := []) (hlm1.mdn []) hs34 (MIL.cons (MI.app MI.z (nx2) (Nat.le_refl _)) MIL.nil)).nil
          have hz7 := hs34.size
          have hle_ow := ow.le
          refine LR.v (Y.assign rfl rfl) (Wd.u rfl) rfl rfl ?_
          refine LR.nil ?_
          refine hK20 _ _ ?_
          refine CW.region ?_
          refine LR.v (Y.move rfl rfl) (Wd.u rfl) rfl rfl ?_
          refine LR.v (Y.addi rfl rfl rfl (by omega)) (Wd.u rfl) rfl rfl ?_
          refine LR.v (Y.assign rfl rfl) (Wd.u rfl) rfl rfl ?_
          refine LR.nil ?_
          refine hK11 _ _ ?_
          refine hK10 _ _ ?_
          refine CW.region ?_
          refine LR.v (Y.move rfl rfl) (Wd.u rfl) rfl rfl ?_
          refine LR.v (Y.addi rfl rfl rfl (by omega)) (Wd.u rfl) rfl rfl ?_
          refine LR.v (Y.assign rfl rfl) (Wd.u rfl) rfl rfl ?_
          refine LR.nil ?_
          refine QN.sub (hN7 (i + 1, i + 1, v34, k34, l ++ [(p.take i).drop f]) _ ?_ ?_) ⟨rfl, rfl, (iv (by omega)), (iv (by omega)), trivial⟩
          · exact ⟨(by omega), ow, hcut, (by intro x hx; rcases List.mem_append.1 hx with hx | hx; exact hok x hx; rw [List.mem_singleton] at hx; rw [hx]; exact hnm), (by simp; omega), nx14, hlm1⟩
          · first | omega | (simp only; omega) | (simp; omega)
      ·
        refine CW.skip ?_
        refine hK11 _ _ ?_
        refine hK10 _ _ ?_
        refine CW.region ?_
        refine LR.v (Y.move rfl rfl) (Wd.u rfl) rfl rfl ?_
        refine LR.v (Y.addi rfl rfl rfl (by omega)) (Wd.u rfl) rfl rfl ?_
        refine LR.v (Y.assign rfl rfl) (Wd.u rfl) rfl rfl ?_
        refine LR.nil ?_
        refine QN.sub (hN7 (i + 1, f, vo, ko, l) _ ?_ ?_) ⟨rfl, rfl, (iv (by omega)), (iv (by omega)), trivial⟩
        · exact ⟨(by omega), ow, hst.go (by omega) (fun e => c21 (by rw [e]; rfl)), (by omega), (by omega), nx2, hlm1⟩
        · first | omega | (simp only; omega) | (simp; omega)
  ·
    have hdn := hst.done (by omega)
    subst hdn
    have hnl := namesL_ok hok
    refine CW.exit (hE8 (.exit 0) nofun _ _ (hE7 (.exit 0) nofun _ _ (hX6 _ _ ?_)))
    refine hK4 _ _ ?_
    refine CW.seq (fun K21 hK21 hE21 => ?_)
    refine CW.seq (fun K22 hK22 hE22 => ?_)
    refine CW.region ?_
    refine LR.v (Y.move rfl rfl) (Wd.u rfl) rfl rfl ?_
    refine LR.v (Y.len ow.rd rfl Try.runUnderlying41 rfl) (Wd.u rfl) rfl rfl ?_
    refine LR.v (Y.gtr rfl rfl rfl) (Wd.u rfl) rfl rfl ?_
    refine LR.nil ?_
    refine hK22 _ _ ?_
    refine CW.condp rfl (fun c39 => ?_) (fun c39 => ?_)
    ·
      refine CW.seq (fun K23 hK23 hE23 => ?_)
      refine CW.region ?_
      refine LR.v (Y.assign rfl rfl) (Wd.u rfl) rfl rfl ?_
      refine LR.nil ?_
      refine hK23 _ _ ?_
      refine CW.ret (hE21 .ret nofun _ _ (hret .ret (.inr rfl) _ _ _ (res1 rfl rfl) ?_))
      exact ⟨.slice none 0 0, 0, rfl, by rw [hnl, if_neg (by omega)]; exact Ow.nil fS_len fS_one, Nx.refl _ _, hm0⟩
    ·
      refine CW.skip ?_
      refine hK21 _ _ ?_
      refine CW.seq (fun K24 hK24 hE24 => ?_)
      refine CW.region ?_
      refine LR.v (Y.move rfl rfl) (Wd.u rfl) rfl rfl ?_
      refine LR.v (Y.assign rfl rfl) (Wd.u rfl) rfl rfl ?_
      refine LR.nil ?_
      refine hK24 _ _ ?_
      refine CW.ret (hret .ret (.inr rfl) _ _ _ (res1 rfl rfl) ?_)
      exact ⟨vo, ko, rfl, by rw [hnl, if_pos (by omega)]; exact ow, nx1, hm0⟩

theorem below_ct (p up : List UInt8) (w0 : World) (H0 : Heap)
    (hl : p.length ≤ 1099511627776 ∧ up.length ≤ 1099511627776) :
    Ct Try.prog w0 27 #[Str p, Str up] H0 (fun r H2 => r = .bool (belowL p up) ∧ Nw H0 H2) := by
  refine Ct.enter (args := [Str p, Str up]) Try.func27 rfl rfl rfl ?_
  intro Q0 hret
  have hm0 : Nw H0 H0 := Mo.refl _ _
  refine CW.seq (fun K1 hK1 hE1 => ?_)
  refine CW.region ?_
  refine LR.v (Y.assign rfl rfl) (Wd.u rfl) rfl rfl ?_
  refine LR.nil ?_
  refine hK1 _ _ ?_
  refine CW.seq (fun K2 hK2 hE2 => ?_)
  refine CW.region ?_
  refine LR.v (Y.move rfl rfl) (Wd.u rfl) rfl rfl ?_
  refine LR.v (Y.slen rfl Try.runUnderlying9 rfl) (Wd.u rfl) rfl rfl ?_
  refine LR.v (Y.move rfl rfl) (Wd.u rfl) rfl rfl ?_
  refine LR.v (Y.slen rfl Try.runUnderlying9 rfl) (Wd.u rfl) rfl rfl ?_
  refine LR.v (Y.gtr rfl rfl rfl) (Wd.u rfl) rfl rfl ?_
  refine LR.v (Y.move rfl rfl) (Wd.u rfl) rfl rfl ?_
  refine LR.splitp (d := 10) rfl (fun g10 => ?_) (fun g10 => ?_)
  ·
    refine LR.v (Y.move rfl rfl) (Wd.g rfl rfl rfl) rfl rfl ?_
    refine LR.v (Y.move rfl rfl) (Wd.g rfl rfl rfl) rfl rfl ?_
    refine LR.v (Y.slen rfl Try.runUnderlying9 rfl) (Wd.g rfl rfl rfl) rfl rfl ?_
    refine LR.v (Y.sslice (0) (up.length) rfl Try.runUnderlying9 rfl (.inl ⟨rfl, rfl⟩) (.inr ⟨_, _, _, rfl, rfl, by first | rfl | omega⟩) (by omega) (by omega)) (Wd.g rfl rfl rfl) rfl rfl ?_
    refine LR.v (Y.move rfl rfl) (Wd.g rfl rfl rfl) rfl rfl ?_
    refine LR.v (Y.seql rfl rfl rfl) (Wd.g rfl rfl rfl) rfl rfl ?_
    refine LR.v (Y.pick_t rfl rfl rfl) (Wd.u rfl) rfl rfl ?_
    refine LR.v (Y.move rfl rfl) (Wd.u rfl) rfl rfl ?_
    refine LR.splitp (d := 18) rfl (fun g18 => ?_) (fun g18 => ?_)
    ·
      refine LR.v (Y.move rfl rfl) (Wd.g rfl rfl rfl) rfl rfl ?_
      refine LR.v (Y.move rfl rfl) (Wd.g rfl rfl rfl) rfl rfl ?_
      refine LR.v (Y.slen rfl Try.runUnderlying9 rfl) (Wd.g rfl rfl rfl) rfl rfl ?_
      refine LR.v (Y.sindex (up.length) rfl Try.runUnderlying9 rfl rfl (by first | rfl | omega) (by omega)) (Wd.g rfl rfl rfl) rfl rfl ?_
      refine LR.v (Y.eql rfl rfl rfl) (Wd.g rfl rfl rfl) rfl rfl ?_
      refine LR.v (Y.pick_t rfl rfl rfl) (Wd.u rfl) rfl rfl ?_
      refine LR.v (Y.assign rfl rfl) (Wd.u rfl) rfl rfl ?_
      refine LR.nil ?_
      refine hK2 _ _ ?_
      refine CW.ret (hret .ret (.inr rfl) _ _ _ (res1 rfl rfl) ?_)
      have hul : up.length < p.length := by omega
      exact ⟨by rw [below_eq hul (by simpa using g18)], hm0⟩
    ·
      refine LR.gs rfl rfl rfl rfl rfl rfl ?_
      refine LR.gs rfl rfl rfl rfl rfl rfl ?_
      refine LR.gs rfl rfl rfl rfl rfl rfl ?_
      refine LR.gs rfl rfl rfl rfl rfl rfl ?_
      refine LR.gs rfl rfl rfl rfl rfl rfl ?_
      refine LR.v (Y.pick_f rfl rfl rfl) (Wd.u rfl) rfl rfl ?_
      refine LR.v (Y.assign rfl rfl) (Wd.u rfl) rfl rfl ?_
      refine LR.nil ?_
      refine hK2 _ _ ?_
      refine CW.ret (hret .ret (.inr rfl) _ _ _ (res1 rfl rfl) ?_)
      exact ⟨by rw [below_no (by rintro ⟨h1, h2⟩; first | omega | exact g18 (by simpa using h2))], hm0⟩
  ·
    refine LR.gs rfl rfl rfl rfl rfl rfl ?_
    refine LR.gs rfl rfl rfl rfl rfl rfl ?_
    refine LR.gs rfl rfl rfl rfl rfl rfl ?_
    refine LR.gs rfl rfl rfl rfl rfl rfl ?_
    refine LR.gs rfl rfl rfl rfl rfl rfl ?_
    refine LR.gs rfl rfl rfl rfl rfl rfl ?_
    refine LR.v (Y.pick_f rfl rfl rfl) (Wd.u rfl) rfl rfl ?_
    refine LR.v (Y.move rfl rfl) (Wd.u rfl) rfl rfl ?_
    refine LR.gs rfl rfl rfl rfl rfl rfl ?_
    refine LR.gs rfl rfl rfl rfl rfl rfl ?_
    refine LR.gs rfl rfl rfl rfl rfl rfl ?_
    refine LR.gs rfl rfl rfl rfl rfl rfl ?_
    refine LR.gs rfl rfl rfl rfl rfl rfl ?_
    refine LR.v (Y.pick_f rfl rfl rfl) (Wd.u rfl) rfl rfl ?_
    refine LR.v (Y.assign rfl rfl) (Wd.u rfl) rfl rfl ?_
    refine LR.nil ?_
    refine hK2 _ _ ?_
    refine CW.ret (hret .ret (.inr rfl) _ _ _ (res1 rfl rfl) ?_)
    exact ⟨by rw [below_no (by rintro ⟨h1, h2⟩; first | omega | exact g18 (by simpa using h2))], hm0⟩

set_option maxHeartbeats 4000000 in
theorem tops1_ct (v : Value) (x : Fl) (w0 : World) (H0 : Heap)
    (hl : RdT H0 fFl 3 v [x]) (hp : x.p.length ≤ 1099511627776) (hn : 0 < (namesL x.p).length) :
    Ct Try.prog w0 53 #[v] H0 (fun r H2 => ∃ vr : Value, ∃ k : Nat, ∃ out : List (List UInt8), r = vr ∧ (Ow k 9 H2 fS 1 vr out) ∧ (Nx 0 H0.size k) ∧ (out.length ≤ 1) ∧ Nw H0 H2) := by
  refine Ct.enter (args := [v]) Try.func53 rfl rfl rfl ?_
  intro Q0 hret
  have hm0 : Nw H0 H0 := Mo.refl _ _
  replace hl := hl.bnd
  have bf_hl := Rd.bf hl
  refine CW.seq (fun K1 hK1 hE1 => ?_)
  refine CW.region ?_
  refine LR.v (Y.assign rfl rfl) (Wd.u rfl) rfl rfl ?_
  refine LR.nil ?_
  refine hK1 _ _ ?_
  refine CW.seq (fun K2 hK2 hE2 => ?_)
  refine CW.region ?_
  refine LR.v (Y.assign rfl rfl) (Wd.u rfl) rfl rfl ?_
  refine LR.nil ?_
  refine hK2 _ _ ?_
  refine CW.seq (fun K3 hK3 hE3 => ?_)
  refine CW.seq (fun K4 hK4 hE4 => ?_)
  refine CW.region ?_
  refine LR.v (Y.assign rfl rfl) (Wd.u rfl) rfl rfl ?_
  refine LR.nil ?_
  refine hK4 _ _ ?_
  refine CW.block (fun K5 hK5 hX5 hE5 => ?_)
  refine CW.loop (fun (s_ : (Nat) × (Value) × (Nat) × (List (List UInt8))) => match s_ with | (i, vo, ko, out) => [(0, v), (3, vo), (4, .int .i64 i)])
    (fun (s_ : (Nat) × (Value) × (Nat) × (List (List UInt8))) (H : Heap) => match s_ with | (i, vo, ko, out) => (i ≤ 1) ∧ (Ow ko 9 H fS 1 vo out) ∧ (out.length ≤ i) ∧ (Nx 0 H0.size ko) ∧ Nw H0 H)
    (fun (s_ : (Nat) × (Value) × (Nat) × (List (List UInt8))) => match s_ with | (i, vo, ko, out) => 1 - i) (0, .slice none 0 0, 0, []) ⟨rfl, rfl, rfl, trivial⟩ ?_ ?_
  ·
    exact ⟨(by omega), Ow.nil fS_len fS_one, (by simp), Nx.refl _ _, Mo.refl _ _⟩
  rintro ⟨i, vo, ko, out⟩ HL1 hI1 K6 hN6 hE6
  obtain ⟨hi, ow, hol, nxl_ow, hlm1⟩ := hI1
  have df1 := DF.app (DF.z) (bf_hl.mono hm0.size) nxl_ow
  have nx2 : Nx 0 H0.size ko := Nx.tr (Nx.refl 0 _) nxl_ow hm0.size
  replace hl := hl.nw hlm1
  replace hm0 := hm0.tr hlm1
  have hz1 := hlm1.size
  have hle_ow := ow.le
  have nx3 := nxl_ow
  refine CW.seq (fun K7 hK7 hE7 => ?_)
  refine CW.seq (fun K8 hK8 hE8 => ?_)
  refine CW.region ?_
  refine LR.v (Y.move rfl rfl) (Wd.u rfl) rfl rfl ?_
  refine LR.v (Y.move rfl rfl) (Wd.u rfl) rfl rfl ?_
  refine LR.v (Y.len hl rfl Try.runUnderlying26 rfl) (Wd.u rfl) rfl rfl ?_
  refine LR.v (Y.lss rfl rfl rfl) (Wd.u rfl) rfl rfl ?_
  refine LR.nil ?_
  refine hK8 _ _ ?_
  refine CW.condp rfl (fun c11 => ?_) (fun c11 => ?_)
  ·
    refine CW.skip ?_
    refine hK7 _ _ ?_
    refine CW.seq (fun K9 hK9 hE9 => ?_)
    refine CW.block (fun K10 hK10 hX10 hE10 => ?_)
    refine CW.seq (fun K11 hK11 hE11 => ?_)
    refine CW.region ?_
    refine LR.v (Y.move rfl rfl) (Wd.u rfl) rfl rfl ?_
    refine LR.v (Y.move rfl rfl) (Wd.u rfl) rfl rfl ?_
    have hi0 : i = 0 := by simp only [List.length_cons, List.length_nil] at c11; omega
    have hj0 : (i : Int) = ((0 : Nat) : Int) := by omega
    have ho0 : out = [] := List.eq_nil_of_length_eq_zero (by omega)
    refine LR.e (g := fun ad => .pointer (some ad)) (Y.indexAddrF hl (0) rfl Try.runUnderlying26 Try.sizeOf35 rfl rfl hj0 (by first | omega | (simp; omega) | (simp; done))) (Wd.u rfl) rfl rfl (fun ad16 pt16 => ?_)
    have bf_pt16 := bf_hl
    refine LR.v (Y.fieldAddr pt16.pt rfl Try.runUnderlying35 rfl rfl Try.sizeOf9 (by decide) rfl) (Wd.u rfl) rfl rfl ?_
    refine LR.v (Y.cast (v2 := Str x.p) (Y.load1 (pt16.pt.drop 0) rfl Try.isAgg9 rfl) (rfl)) (Wd.u rfl) rfl rfl ?_
    -- call selvage/selvageref15.Names
    refine LR.call rfl Try.call21 rfl (Wd.u rfl) rfl rfl (names_ct x.p w0 _ hp) (fun v19 H19 r19 => ?_)
    obtain ⟨vn_, kn, rfl, on, hkn, hs19⟩ := r19
    have df4 := DF.app (DF.z) (bf_hl.mono hm0.size) hkn
    have dj5 : Dj ko kn := Dj.app (Dj.z) ow.le hkn
    have df6 := DF.app (DF.z) (bf_pt16.mono hm0.size) hkn
    have nx7 : Nx 0 H0.size kn := Nx.tr (Nx.refl 0 _) hkn hm0.size
    have nx8 : Nx 0 H0.size kn := Nx.tr (Nx.refl 0 _) hkn hlm1.size
    replace hl := hl.nw hs19
    replace ow := ow.nw hs19
    replace pt16 := pt16.nw hs19
    replace hm0 := hm0.tr hs19
    replace hlm1 := hlm1.tr hs19
    have hz2 := hs19.size
    have hle_on := on.le
    refine LR.v (Y.owAddr on (0) rfl Try.runUnderlying41 Try.sizeOf9 rfl rfl (by first | rfl | omega) (hn)) (Wd.u rfl) rfl rfl ?_
    refine LR.v (Y.load1 (on.pt (j := 0) (hn)) rfl Try.isAgg9 rfl) (Wd.u rfl) rfl rfl ?_
    refine LR.v (Y.assign rfl rfl) (Wd.u rfl) rfl rfl ?_
    refine LR.nil ?_
    refine hK11 _ _ ?_
    refine CW.seq (fun K12 hK12 hE12 => ?_)
    refine CW.region ?_
    refine LR.v (Y.assign rfl rfl) (Wd.u rfl) rfl rfl ?_
    refine LR.nil ?_
    refine hK12 _ _ ?_
    refine CW.seq (fun K13 hK13 hE13 => ?_)
    refine CW.block (fun K14 hK14 hX14 hE14 => ?_)
    refine CW.loop (fun (_ : Unit) => [(0, v), (3, vo), (4, .int .i64 i), (5, Str ((namesL x.p)[0]'hn)), (6, .int .i64 0)])
      (fun (_ : Unit) (H : Heap) => (True) ∧ Nw H19 H)
      (fun (_ : Unit) => 0) () ⟨rfl, rfl, rfl, rfl, rfl, trivial⟩ ?_ ?_
    ·
      exact ⟨trivial, Mo.refl _ _⟩
    intro _ HL2 hI2 K15 hN15 hE15
    obtain ⟨ht, hlm2⟩ := hI2
    replace hl := hl.nw hlm2
    replace ow := ow.nw hlm2
    replace hm0 := hm0.tr hlm2
    replace hlm1 := hlm1.tr hlm2
    have hz3 := hlm2.size
    refine CW.seq (fun K16 hK16 hE16 => ?_)
    refine CW.seq (fun K17 hK17 hE17 => ?_)
    refine CW.region ?_
    refine LR.v (Y.move rfl rfl) (Wd.u rfl) rfl rfl ?_
    refine LR.v (Y.move rfl rfl) (Wd.u rfl) rfl rfl ?_
    refine LR.v (Y.len ow.rd rfl Try.runUnderlying41 rfl) (Wd.u rfl) rfl rfl ?_
    refine LR.v (Y.lss rfl rfl rfl) (Wd.u rfl) rfl rfl ?_
    refine LR.v (Y.move rfl rfl) (Wd.u rfl) rfl rfl ?_
    refine LR.splitp (d := 26) rfl (fun g26 => ?_) (fun g26 => ?_)
    ·
      first
      | exfalso; omega
      | skip
        refine LR.v (Y.move rfl rfl) (Wd.g rfl rfl rfl) rfl rfl ?_
        refine LR.v (Y.move rfl rfl) (Wd.g rfl rfl rfl) rfl rfl ?_
        refine LR.v (Y.owAddr ow (_) rfl Try.runUnderlying41 Try.sizeOf9 rfl rfl rfl (by first | omega | (simp; omega) | (simp; done))) (Wd.g rfl rfl rfl) rfl rfl ?_
        refine LR.v (Y.load1 (ow.pt (j := _) (by first | omega | (simp; omega) | (simp; done))) rfl Try.isAgg9 rfl) (Wd.g rfl rfl rfl) rfl rfl ?_
        refine LR.v (Y.move rfl rfl) (Wd.g rfl rfl rfl) rfl rfl ?_
        refine LR.v (Y.slss rfl rfl rfl) (Wd.g rfl rfl rfl) rfl rfl ?_
        refine LR.v (Y.pick_t rfl rfl rfl) (Wd.u rfl) rfl rfl ?_
        refine LR.nil ?_
        refine hK17 _ _ ?_
        refine CW.cond rfl (fun c33 => ?_) (fun c33 => ?_)
        ·
          refine CW.skip ?_
          refine hK16 _ _ ?_
          refine CW.block (fun K18 hK18 hX18 hE18 => ?_)
          refine CW.region ?_
          refine LR.v (Y.move rfl rfl) (Wd.u rfl) rfl rfl ?_
          refine LR.v (Y.addi rfl rfl rfl (by omega)) (Wd.u rfl) rfl rfl ?_
          refine LR.v (Y.assign rfl rfl) (Wd.u rfl) rfl rfl ?_
          refine LR.nil ?_
          refine hK18 _ _ ?_
          refine QN.sub (hN15 () _ ?_ ?_) ⟨rfl, rfl, (iv (by omega)), rfl, (iv (by omega)), trivial⟩
          · exact ⟨trivial, hlm2⟩
          · first | omega | (simp only; omega) | (simp; omega)
        ·
          refine CW.exit (hE16 (.exit 2) nofun _ _ (hE15 (.exit 2) nofun _ _ (hX14 _ _ ?_)))
          refine hK13 _ _ ?_
          refine CW.seq (fun K19 hK19 hE19 => ?_)
          refine CW.seq (fun K20 hK20 hE20 => ?_)
          refine CW.region ?_
          refine LR.v (Y.move rfl rfl) (Wd.u rfl) rfl rfl ?_
          refine LR.v (Y.move rfl rfl) (Wd.u rfl) rfl rfl ?_
          refine LR.v (Y.len ow.rd rfl Try.runUnderlying41 rfl) (Wd.u rfl) rfl rfl ?_
          refine LR.v (Y.lss rfl rfl rfl) (Wd.u rfl) rfl rfl ?_
          refine LR.v (Y.move rfl rfl) (Wd.u rfl) rfl rfl ?_
          refine LR.splitp (d := 40) rfl (fun g40 => ?_) (fun g40 => ?_)
          ·
            first
            | exfalso; omega
            | skip
              refine LR.v (Y.move rfl rfl) (Wd.g rfl rfl rfl) rfl rfl ?_
              refine LR.v (Y.move rfl rfl) (Wd.g rfl rfl rfl) rfl rfl ?_
              refine LR.v (Y.owAddr ow (_) rfl Try.runUnderlying41 Try.sizeOf9 rfl rfl rfl (by first | omega | (simp; omega) | (simp; done))) (Wd.g rfl rfl rfl) rfl rfl ?_
              refine LR.v (Y.load1 (ow.pt (j := _) (by first | omega | (simp; omega) | (simp; done))) rfl Try.isAgg9 rfl) (Wd.g rfl rfl rfl) rfl rfl ?_
              refine LR.v (Y.move rfl rfl) (Wd.g rfl rfl rfl) rfl rfl ?_
              refine LR.v (Y.seql rfl rfl rfl) (Wd.g rfl rfl rfl) rfl rfl ?_
              refine LR.v (Y.pick_t rfl rfl rfl) (Wd.u rfl) rfl rfl ?_
              refine LR.nil ?_
              refine hK20 _ _ ?_
              refine CW.condp rfl (fun c47 => ?_) (fun c47 => ?_)
              ·
                refine CW.exit (hE19 (.exit 1) nofun _ _ (hX10 _ _ ?_))
                refine hK9 _ _ ?_
                refine CW.region ?_
                refine LR.v (Y.move rfl rfl) (Wd.u rfl) rfl rfl ?_
                refine LR.v (Y.addi rfl rfl rfl (by omega)) (Wd.u rfl) rfl rfl ?_
                refine LR.v (Y.assign rfl rfl) (Wd.u rfl) rfl rfl ?_
                refine LR.nil ?_
                refine QN.sub (hN6 (i + 1, vo, ko, out) _ ?_ ?_) ⟨rfl, rfl, (iv (by omega)), trivial⟩
                · exact ⟨(by omega), ow, (by omega), nx3, hlm1⟩
                · first | omega | (simp only; omega) | (simp; omega)
              ·
                refine CW.skip ?_
                refine hK19 _ _ ?_
                refine CW.seq (fun K21 hK21 hE21 => ?_)
                refine CW.region ?_
                refine LR.v (Y.assign rfl rfl) (Wd.u rfl) rfl rfl ?_
                refine LR.nil ?_
                refine hK21 _ _ ?_
                refine CW.seq (fun K22 hK22 hE22 => ?_)
                refine CW.region ?_
                refine LR.v (Y.move rfl rfl) (Wd.u rfl) rfl rfl ?_
                refine LR.v (Y.move rfl rfl) (Wd.u rfl) rfl rfl ?_
                refine LR.v (Y.move rfl rfl) (Wd.u rfl) rfl rfl ?_
                refine LR.e (g := fun v => v) (Y.slice ow.rd (0) (0) rfl Try.runUnderlying41 Try.sizeOf9 rfl (.inl ⟨rfl, rfl⟩) (.inr ⟨_, _, _, rfl, rfl, by first | rfl | simp⟩) (by omega) (by omega)) (Wd.u rfl) rfl rfl (fun v51 rd51 => ?_)
                have bf_rd51 := BF.of ow.le
                have nl52 : Ow 0 9 HL2 fS 1 (.slice none 0 0) [] := Ow.nil fS_len fS_one
                refine LR.z (Z.apnd nl52 rd51 rfl inf41 rfl rfl (by simp [ho0]) (by simp [ho0])) (Wd.u rfl) rfl rfl (fun v52 H52 r52 => ?_)
                obtain ⟨k52, om, hk52, hs52⟩ := r52
                replace hk52 : Nx 0 HL2.size k52 := hk52
                replace hs52 := hs52.md
                have df9 := DF.app (DF.z) (bf_hl.mono hm0.size) hk52
                have dj10 : Dj ko k52 := Dj.app (Dj.z) ow.le hk52
                have df11 := DF.app (DF.z) (bf_rd51.mono (by omega)) hk52
                have nx12 : Nx 0 H0.size k52 := Nx.tr (Nx.refl 0 _) hk52 hm0.size
                have nx13 : Nx 0 H0.size k52 := Nx.tr (Nx.refl 0 _) hk52 hlm1.size
                replace hl := hl.upL hs52 (DFL.cons DF.z DFL.nil)
                replace ow := ow.upL hs52 (DL.cons Dj.z DL.nil)
                replace rd51 := rd51.upL hs52 (DFL.cons DF.z DFL.nil)
                replace hm0 := (Mo.trL (ks := []) (hm0.mdn []) hs52 (MIL.cons MI.z MIL.nil)).nil
                replace hlm1 := (Mo.trL (ks := []) (hlm1.mdn []) hs52 (MIL.cons MI.z MIL.nil)).nil
                have hz4 := hs52.size
                have hle_om := om.le
                refine LR.v (Y.assign rfl rfl) (Wd.u rfl) rfl rfl ?_
                refine LR.nil ?_
                refine hK22 _ _ ?_
                refine CW.seq (fun K23 hK23 hE23 => ?_)
                refine CW.region ?_
                refine LR.v (Y.move rfl rfl) (Wd.u rfl) rfl rfl ?_
                refine LR.v (Y.move rfl rfl) (Wd.u rfl) rfl rfl ?_
                refine LR.z (Z.litw _ ([(namesL x.p)[0]]) rfl inf41 rfl rfl rfl (by decide) (by decide) fS_len fS_one (rfl)) (Wd.u rfl) rfl rfl (fun v55 H55 r55 => ?_)
                obtain ⟨nw55, hs55, ob55, hH55⟩ := r55
                have hzs55 : H55.size = H52.size + 1 := by rw [hH55]; simp
                have df14 := (DF.new (bf_hl.mono hm0.size) : DF _ (H52.size + 1))
                have dj15 : Dj ko (H52.size + 1) := Dj.new ow.le
                have dj16 : Dj k52 (H52.size + 1) := Dj.new om.le
                have nx17 : Nx 0 H0.size (H52.size + 1) := Nx.new hm0.size
                have nx18 : Nx 0 H0.size (H52.size + 1) := Nx.new hlm1.size
                replace hl := hl.nw hs55
                replace ow := ow.nw hs55
                replace om := om.nw hs55
                replace hm0 := hm0.tr hs55
                replace hlm1 := hlm1.tr hs55
                have hz5 := hs55.size
                refine LR.z (Z.apnd om nw55.rd rfl inf41 rfl rfl (by simp [ho0]) (by simp [ho0])) (Wd.u rfl) rfl rfl (fun v56 H56 r56 => ?_)
                obtain ⟨k56, om, hk56, hs56⟩ := r56
                replace hk56 : Nx k52 H55.size k56 := hk56
                replace hs56 := hs56.md
                have df19 := DF.app (df9) (bf_hl.mono hm0.size) hk56
                have dj20 : Dj ko k56 := Dj.app (dj10) ow.le hk56
                have dj21 : Dj (H52.size + 1) k56 := Dj.app (dj16.symm) nw55.le hk56
                have nx22 : Nx 0 H0.size k56 := Nx.tr (nx12) hk56 hm0.size
                have nx23 : Nx 0 H0.size k56 := Nx.tr (nx13) hk56 hlm1.size
                replace hl := hl.upL hs56 (DFL.cons df9 DFL.nil)
                replace ow := ow.upL hs56 (DL.cons dj10 DL.nil)
                replace nw55 := nw55.upL hs56 (DL.cons dj16.symm DL.nil)
                replace hm0 := (Mo.trL (ks := []) (hm0.mdn []) hs56 (MIL.cons (MI.app MI.z (nx12) (Nat.le_refl _)) MIL.nil)).nil
                replace hlm1 := (Mo.trL (ks := []) (hlm1.mdn []) hs56 (MIL.cons (MI.app MI.z (nx13) (Nat.le_refl _)) MIL.nil)).nil
                have hz6 := hs56.size
                have hle_om := om.le
                refine LR.v (Y.assign rfl rfl) (Wd.u rfl) rfl rfl ?_
                refine LR.nil ?_
                refine hK23 _ _ ?_
                refine CW.region ?_
                refine LR.v (Y.move rfl rfl) (Wd.u rfl) rfl rfl ?_
                refine LR.v (Y.move rfl rfl) (Wd.u rfl) rfl rfl ?_
                refine LR.v (Y.move rfl rfl) (Wd.u rfl) rfl rfl ?_
                refine LR.e (g := fun v => v) (Y.slice ow.rd (0) (out.length) rfl Try.runUnderlying41 Try.sizeOf9 rfl (.inr ⟨_, _, _, rfl, rfl, by first | rfl | omega⟩) (.inl ⟨rfl, rfl⟩) (by omega) (by omega)) (Wd.u rfl) rfl rfl (fun v60 rd60 => ?_)
                have bf_rd60 := BF.of ow.le
                refine LR.z (Z.apnd om rd60 rfl inf41 rfl rfl (by simp [ho0]) (by simp [ho0])) (Wd.u rfl) rfl rfl (fun v61 H61 r61 => ?_)
                obtain ⟨k61, om, hk61, hs61⟩ := r61
                replace hk61 : Nx k56 H56.size k61 := hk61
                replace hs61 := hs61.md
                have df24 := DF.app (df19) (bf_hl.mono hm0.size) hk61
                have dj25 : Dj ko k61 := Dj.app (dj20) ow.le hk61
                have df26 := DF.app ((DF.of dj20)) (bf_rd60.mono (by omega)) hk61
                have nx27 : Nx 0 H0.size k61 := Nx.tr (nx22) hk61 hm0.size
                have nx28 : Nx 0 H0.size k61 := Nx.tr (nx23) hk61 hlm1.size
                replace hl := hl.upL hs61 (DFL.cons df19 DFL.nil)
                replace ow := ow.upL hs61 (DL.cons dj20 DL.nil)
                replace rd60 := rd60.upL hs61 (DFL.cons (DF.of dj20) DFL.nil)
                replace hm0 := (Mo.trL (ks := []) (hm0.mdn []) hs61 (MIL.cons (MI.app MI.z (nx22) (Nat.le_refl _)) MIL.nil)).nil
                replace hlm1 := (Mo.trL (ks := []) (hlm1.mdn []) hs61 (MIL.cons (MI.app MI.z (nx23) (Nat.le_refl _)) MIL.nil)).nil
                have hz7 := hs61.size
                have hle_om := om.le
                refine LR.v (Y.assign rfl rfl) (Wd.u rfl) rfl rfl ?_
                refine LR.nil ?_
                refine hK10 _ _ ?_
                refine hK9 _ _ ?_
                refine CW.region ?_
                refine LR.v (Y.move rfl rfl) (Wd.u rfl) rfl rfl ?_
                refine LR.v (Y.addi rfl rfl rfl (by omega)) (Wd.u rfl) rfl rfl ?_
                refine LR.v (Y.assign rfl rfl) (Wd.u rfl) rfl rfl ?_
                refine LR.nil ?_
                refine QN.sub (hN6 (i + 1, v61, k61, [(namesL x.p)[0]]) _ ?_ ?_) ⟨rfl, rfl, (iv (by omega)), trivial⟩
                · exact ⟨(by omega), by simpa [ho0] using om, (by simp), nx28, hlm1⟩
                · first | omega | (simp only; omega) | (simp; omega)
          ·
            first
            | exfalso; omega
            | skip
              refine LR.gs rfl rfl rfl rfl rfl rfl ?_
              refine LR.gs rfl rfl rfl rfl rfl rfl ?_
              refine LR.gs rfl rfl rfl rfl rfl rfl ?_
              refine LR.gs rfl rfl rfl rfl rfl rfl ?_
              refine LR.gs rfl rfl rfl rfl rfl rfl ?_
              refine LR.gs rfl rfl rfl rfl rfl rfl ?_
              refine LR.v (Y.pick_f rfl rfl rfl) (Wd.u rfl) rfl rfl ?_
              refine LR.nil ?_
              refine hK20 _ _ ?_
              refine CW.cond_f rfl ?_
              refine CW.skip ?_
              refine hK19 _ _ ?_
              refine CW.seq (fun K24 hK24 hE24 => ?_)
              refine CW.region ?_
              refine LR.v (Y.assign rfl rfl) (Wd.u rfl) rfl rfl ?_
              refine LR.nil ?_
              refine hK24 _ _ ?_
              refine CW.seq (fun K25 hK25 hE25 => ?_)
              refine CW.region ?_
              refine LR.v (Y.move rfl rfl) (Wd.u rfl) rfl rfl ?_
              refine LR.v (Y.move rfl rfl) (Wd.u rfl) rfl rfl ?_
              refine LR.v (Y.move rfl rfl) (Wd.u rfl) rfl rfl ?_
              refine LR.e (g := fun v => v) (Y.slice ow.rd (0) (0) rfl Try.runUnderlying41 Try.sizeOf9 rfl (.inl ⟨rfl, rfl⟩) (.inr ⟨_, _, _, rfl, rfl, by first | rfl | simp⟩) (by omega) (by omega)) (Wd.u rfl) rfl rfl (fun v51 rd51 => ?_)
              have bf_rd51 := BF.of ow.le
              have nl52 : Ow 0 9 HL2 fS 1 (.slice none 0 0) [] := Ow.nil fS_len fS_one
              refine LR.z (Z.apnd nl52 rd51 rfl inf41 rfl rfl (by simp [ho0]) (by simp [ho0])) (Wd.u rfl) rfl rfl (fun v52 H52 r52 => ?_)
              obtain ⟨k52, om, hk52, hs52⟩ := r52
              replace hk52 : Nx 0 HL2.size k52 := hk52
              replace hs52 := hs52.md
              have df29 := DF.app (DF.z) (bf_hl.mono hm0.size) hk52
              have dj30 : Dj ko k52 := Dj.app (Dj.z) ow.le hk52
              have df31 := DF.app (DF.z) (bf_rd51.mono (by omega)) hk52
              have nx32 : Nx 0 H0.size k52 := Nx.tr (Nx.refl 0 _) hk52 hm0.size
              have nx33 : Nx 0 H0.size k52 := Nx.tr (Nx.refl 0 _) hk52 hlm1.size
              replace hl := hl.upL hs52 (DFL.cons DF.z DFL.nil)
              replace ow := ow.upL hs52 (DL.cons Dj.z DL.nil)
              replace rd51 := rd51.upL hs52 (DFL.cons DF.z DFL.nil)
              replace hm0 := (Mo.trL (ks := []) (hm0.mdn []) hs52 (MIL.cons MI.z MIL.nil)).nil
              replace hlm1 := (Mo.trL (ks := []) (hlm1.mdn []) hs52 (MIL.cons MI.z MIL.nil)).nil
              have hz8 := hs52.size
              have hle_om := om.le
              refine LR.v (Y.assign rfl rfl) (Wd.u rfl) rfl rfl ?_
              refine LR.nil ?_
              refine hK25 _ _ ?_
              refine CW.seq (fun K26 hK26 hE26 => ?_)
              refine CW.region ?_
              refine LR.v (Y.move rfl rfl) (Wd.u rfl) rfl rfl ?_
              refine LR.v (Y.move rfl rfl) (Wd.u rfl) rfl rfl ?_
              refine LR.z (Z.litw _ ([(namesL x.p)[0]]) rfl inf41 rfl rfl rfl (by decide) (by decide) fS_len fS_one (rfl)) (Wd.u rfl) rfl rfl (fun v55 H55 r55 => ?_)
              obtain ⟨nw55, hs55, ob55, hH55⟩ := r55
              have hzs55 : H55.size = H52.size + 1 := by rw [hH55]; simp
              have df34 := (DF.new (bf_hl.mono hm0.size) : DF _ (H52.size + 1))
              have dj35 : Dj ko (H52.size + 1) := Dj.new ow.le
              have dj36 : Dj k52 (H52.size + 1) := Dj.new om.le
              have nx37 : Nx 0 H0.size (H52.size + 1) := Nx.new hm0.size
              have nx38 : Nx 0 H0.size (H52.size + 1) := Nx.new hlm1.size
              replace hl := hl.nw hs55
              replace ow := ow.nw hs55
              replace om := om.nw hs55
              replace hm0 := hm0.tr hs55
              replace hlm1 := hlm1.tr hs55
              have hz9 := hs55.size
              refine LR.z (Z.apnd om nw55.rd rfl inf41 rfl rfl (by simp [ho0]) (by simp [ho0])) (Wd.u rfl) rfl rfl (fun v56 H56 r56 => ?_)
              obtain ⟨k56, om, hk56, hs56⟩ := r56
              replace hk56 : Nx k52 H55.size k56 := hk56
              replace hs56 := hs56.md
              have df39 := DF.app (df29) (bf_hl.mono hm0.size) hk56
              have dj40 : Dj ko k56 := Dj.app (dj30) ow.le hk56
              have dj41 : Dj (H52.size + 1) k56 := Dj.app (dj36.symm) nw55.le hk56
              have nx42 : Nx 0 H0.size k56 := Nx.tr (nx32) hk56 hm0.size
              have nx43 : Nx 0 H0.size k56 := Nx.tr (nx33) hk56 hlm1.size
              replace hl := hl.upL hs56 (DFL.cons df29 DFL.nil)
              replace ow := ow.upL hs56 (DL.cons dj30 DL.nil)
              replace nw55 := nw55.upL hs56 (DL.cons dj36.symm DL.nil)
              replace hm0 := (Mo.trL (ks := []) (hm0.mdn []) hs56 (MIL.cons (MI.app MI.z (nx32) (Nat.le_refl _)) MIL.nil)).nil
              replace hlm1 := (Mo.trL (ks := []) (hlm1.mdn []) hs56 (MIL.cons (MI.app MI.z (nx33) (Nat.le_refl _)) MIL.nil)).nil
              have hz10 := hs56.size
              have hle_om := om.le
              refine LR.v (Y.assign rfl rfl) (Wd.u rfl) rfl rfl ?_
              refine LR.nil ?_
              refine hK26 _ _ ?_
              refine CW.region ?_
              refine LR.v (Y.move rfl rfl) (Wd.u rfl) rfl rfl ?_
              refine LR.v (Y.move rfl rfl) (Wd.u rfl) rfl rfl ?_
              refine LR.v (Y.move rfl rfl) (Wd.u rfl) rfl rfl ?_
              refine LR.e (g := fun v => v) (Y.slice ow.rd (0) (out.length) rfl Try.runUnderlying41 Try.sizeOf9 rfl (.inr ⟨_, _, _, rfl, rfl, by first | rfl | omega⟩) (.inl ⟨rfl, rfl⟩) (by omega) (by omega)) (Wd.u rfl) rfl rfl (fun v60 rd60 => ?_)
              have bf_rd60 := BF.of ow.le
              refine LR.z (Z.apnd om rd60 rfl inf41 rfl rfl (by simp [ho0]) (by simp [ho0])) (Wd.u rfl) rfl rfl (fun v61 H61 r61 => ?_)
              obtain ⟨k61, om, hk61, hs61⟩ := r61
              replace hk61 : Nx k56 H56.size k61 := hk61
              replace hs61 := hs61.md
              have df44 := DF.app (df39) (bf_hl.mono hm0.size) hk61
              have dj45 : Dj ko k61 := Dj.app (dj40) ow.le hk61
              have df46 := DF.app ((DF.of dj40)) (bf_rd60.mono (by omega)) hk61
              have nx47 : Nx 0 H0.size k61 := Nx.tr (nx42) hk61 hm0.size
              have nx48 : Nx 0 H0.size k61 := Nx.tr (nx43) hk61 hlm1.size
              replace hl := hl.upL hs61 (DFL.cons df39 DFL.nil)
              replace ow := ow.upL hs61 (DL.cons dj40 DL.nil)
              replace rd60 := rd60.upL hs61 (DFL.cons (DF.of dj40) DFL.nil)
              replace hm0 := (Mo.trL (ks := []) (hm0.mdn []) hs61 (MIL.cons (MI.app MI.z (nx42) (Nat.le_refl _)) MIL.nil)).nil
              replace hlm1 := (Mo.trL (ks := []) (hlm1.mdn []) hs61 (MIL.cons (MI.app MI.z (nx43) (Nat.le_refl _)) MIL.nil)).nil
              have hz11 := hs61.size
              have hle_om := om.le
              refine LR.v (Y.assign rfl rfl) (Wd.u rfl) rfl rfl ?_
              refine LR.nil ?_
              refine hK10 _ _ ?_
              refine hK9 _ _ ?_
              refine CW.region ?_
              refine LR.v (Y.move rfl rfl) (Wd.u rfl) rfl rfl ?_
              refine LR.v (Y.addi rfl rfl rfl (by omega)) (Wd.u rfl) rfl rfl ?_
              refine LR.v (Y.assign rfl rfl) (Wd.u rfl) rfl rfl ?_
              refine LR.nil ?_
              refine QN.sub (hN6 (i + 1, v61, k61, [(namesL x.p)[0]]) _ ?_ ?_) ⟨rfl, rfl, (iv (by omega)), trivial⟩
              · exact ⟨(by omega), by simpa [ho0] using om, (by simp), nx48, hlm1⟩
              · first | omega | (simp only; omega) | (simp; omega)
    ·
      first
      | exfalso; omega
      | skip
        refine LR.gs rfl rfl rfl rfl rfl rfl ?_
        refine LR.gs rfl rfl rfl rfl rfl rfl ?_
        refine LR.gs rfl rfl rfl rfl rfl rfl ?_
        refine LR.gs rfl rfl rfl rfl rfl rfl ?_
        refine LR.gs rfl rfl rfl rfl rfl rfl ?_
        refine LR.gs rfl rfl rfl rfl rfl rfl ?_
        refine LR.v (Y.pick_f rfl rfl rfl) (Wd.u rfl) rfl rfl ?_
        refine LR.nil ?_
        refine hK17 _ _ ?_
        refine CW.cond_f rfl ?_
        refine CW.exit (hE16 (.exit 2) nofun _ _ (hE15 (.exit 2) nofun _ _ (hX14 _ _ ?_)))
        refine hK13 _ _ ?_
        refine CW.seq (fun K27 hK27 hE27 => ?_)
        refine CW.seq (fun K28 hK28 hE28 => ?_)
        refine CW.region ?_
        refine LR.v (Y.move rfl rfl) (Wd.u rfl) rfl rfl ?_
        refine LR.v (Y.move rfl rfl) (Wd.u rfl) rfl rfl ?_
        refine LR.v (Y.len ow.rd rfl Try.runUnderlying41 rfl) (Wd.u rfl) rfl rfl ?_
        refine LR.v (Y.lss rfl rfl rfl) (Wd.u rfl) rfl rfl ?_
        refine LR.v (Y.move rfl rfl) (Wd.u rfl) rfl rfl ?_
        refine LR.splitp (d := 40) rfl (fun g40 => ?_) (fun g40 => ?_)
        ·
          first
          | exfalso; omega
          | skip
            refine LR.v (Y.move rfl rfl) (Wd.g rfl rfl rfl) rfl rfl ?_
            refine LR.v (Y.move rfl rfl) (Wd.g rfl rfl rfl) rfl rfl ?_
            refine LR.v (Y.owAddr ow (_) rfl Try.runUnderlying41 Try.sizeOf9 rfl rfl rfl (by first | omega | (simp; omega) | (simp; done))) (Wd.g rfl rfl rfl) rfl rfl ?_
            refine LR.v (Y.load1 (ow.pt (j := _) (by first | omega | (simp; omega) | (simp; done))) rfl Try.isAgg9 rfl) (Wd.g rfl rfl rfl) rfl rfl ?_
            refine LR.v (Y.move rfl rfl) (Wd.g rfl rfl rfl) rfl rfl ?_
            refine LR.v (Y.seql rfl rfl rfl) (Wd.g rfl rfl rfl) rfl rfl ?_
            refine LR.v (Y.pick_t rfl rfl rfl) (Wd.u rfl) rfl rfl ?_
            refine LR.nil ?_
            refine hK28 _ _ ?_
            refine CW.condp rfl (fun c47 => ?_) (fun c47 => ?_)
            ·
              refine CW.exit (hE27 (.exit 1) nofun _ _ (hX10 _ _ ?_))
              refine hK9 _ _ ?_
              refine CW.region ?_
              refine LR.v (Y.move rfl rfl) (Wd.u rfl) rfl rfl ?_
              refine LR.v (Y.addi rfl rfl rfl (by omega)) (Wd.u rfl) rfl rfl ?_
              refine LR.v (Y.assign rfl rfl) (Wd.u rfl) rfl rfl ?_
              refine LR.nil ?_
              refine QN.sub (hN6 (i + 1, vo, ko, out) _ ?_ ?_) ⟨rfl, rfl, (iv (by omega)), trivial⟩
              · exact ⟨(by omega), ow, (by omega), nx3, hlm1⟩
              · first | omega | (simp only; omega) | (simp; omega)
            ·
              refine CW.skip ?_
              refine hK27 _ _ ?_
              refine CW.seq (fun K29 hK29 hE29 => ?_)
              refine CW.region ?_
              refine LR.v (Y.assign rfl rfl) (Wd.u rfl) rfl rfl ?_
              refine LR.nil ?_
              refine hK29 _ _ ?_
              refine CW.seq (fun K30 hK30 hE30 => ?_)
              refine CW.region ?_
              refine LR.v (Y.move rfl rfl) (Wd.u rfl) rfl rfl ?_
              refine LR.v (Y.move rfl rfl) (Wd.u rfl) rfl rfl ?_
              refine LR.v (Y.move rfl rfl) (Wd.u rfl) rfl rfl ?_
              refine LR.e (g := fun v => v) (Y.slice ow.rd (0) (0) rfl Try.runUnderlying41 Try.sizeOf9 rfl (.inl ⟨rfl, rfl⟩) (.inr ⟨_, _, _, rfl, rfl, by first | rfl | simp⟩) (by omega) (by omega)) (Wd.u rfl) rfl rfl (fun v51 rd51 => ?_)
              have bf_rd51 := BF.of ow.le
              have nl52 : Ow 0 9 HL2 fS 1 (.slice none 0 0) [] := Ow.nil fS_len fS_one
              refine LR.z (Z.apnd nl52 rd51 rfl inf41 rfl rfl (by simp [ho0]) (by simp [ho0])) (Wd.u rfl) rfl rfl (fun v52 H52 r52 => ?_)
              obtain ⟨k52, om, hk52, hs52⟩ := r52
              replace hk52 : Nx 0 HL2.size k52 := hk52
              replace hs52 := hs52.md
              have df49 := DF.app (DF.z) (bf_hl.mono hm0.size) hk52
              have dj50 : Dj ko k52 := Dj.app (Dj.z) ow.le hk52
              have df51 := DF.app (DF.z) (bf_rd51.mono (by omega)) hk52
              have nx52 : Nx 0 H0.size k52 := Nx.tr (Nx.refl 0 _) hk52 hm0.size
              have nx53 : Nx 0 H0.size k52 := Nx.tr (Nx.refl 0 _) hk52 hlm1.size
              replace hl := hl.upL hs52 (DFL.cons DF.z DFL.nil)
              replace ow := ow.upL hs52 (DL.cons Dj.z DL.nil)
              replace rd51 := rd51.upL hs52 (DFL.cons DF.z DFL.nil)
              replace hm0 := (Mo.trL (ks := []) (hm0.mdn []) hs52 (MIL.cons MI.z MIL.nil)).nil
              replace hlm1 := (Mo.trL (ks := []) (hlm1.mdn []) hs52 (MIL.cons MI.z MIL.nil)).nil
              have hz12 := hs52.size
              have hle_om := om.le
              refine LR.v (Y.assign rfl rfl) (Wd.u rfl) rfl rfl ?_
              refine LR.nil ?_
              refine hK30 _ _ ?_
              refine CW.seq (fun K31 hK31 hE31 => ?_)
              refine CW.region ?_
              refine LR.v (Y.move rfl rfl) (Wd.u rfl) rfl rfl ?_
              refine LR.v (Y.move rfl rfl) (Wd.u rfl) rfl rfl ?_
              refine LR.z (Z.litw _ ([(namesL x.p)[0]]) rfl inf41 rfl rfl rfl (by decide) (by decide) fS_len fS_one (rfl)) (Wd.u rfl) rfl rfl (fun v55 H55 r55 => ?_)
              obtain ⟨nw55, hs55, ob55, hH55⟩ := r55
              have hzs55 : H55.size = H52.size + 1 := by rw [hH55]; simp
              have df54 := (DF.new (bf_hl.mono hm0.size) : DF _ (H52.size + 1))
              have dj55 : Dj ko (H52.size + 1) := Dj.new ow.le
              have dj56 : Dj k52 (H52.size + 1) := Dj.new om.le
              have nx57 : Nx 0 H0.size (H52.size + 1) := Nx.new hm0.size
              have nx58 : Nx 0 H0.size (H52.size + 1) := Nx.new hlm1.size
              replace hl := hl.nw hs55
              replace ow := ow.nw hs55
              replace om := om.nw hs55
              replace hm0 := hm0.tr hs55
              replace hlm1 := hlm1.tr hs55
              have hz13 := hs55.size
              refine LR.z (Z.apnd om nw55.rd rfl inf41 rfl rfl (by simp [ho0]) (by simp [ho0])) (Wd.u rfl) rfl rfl (fun v56 H56 r56 => ?_)
              obtain ⟨k56, om, hk56, hs56⟩ := r56
              replace hk56 : Nx k52 H55.size k56 := hk56
              replace hs56 := hs56.md
              have df59 := DF.app (df49) (bf_hl.mono hm0.size) hk56
              have dj60 : Dj ko k56 := Dj.app (dj50) ow.le hk56
              have dj61 : Dj (H52.size + 1) k56 := Dj.app (dj56.symm) nw55.le hk56
              have nx62 : Nx 0 H0.size k56 := Nx.tr (nx52) hk56 hm0.size
              have nx63 : Nx 0 H0.size k56 := Nx.tr (nx53) hk56 hlm1.size
              replace hl := hl.upL hs56 (DFL.cons df49 DFL.nil)
              replace ow := ow.upL hs56 (DL.cons dj50 DL.nil)
              replace nw55 := nw55.upL hs56 (DL.cons dj56.symm DL.nil)
              replace hm0 := (Mo.trL (ks := []) (hm0.mdn []) hs56 (MIL.cons (MI.app MI.z (nx52) (Nat.le_refl _)) MIL.nil)).nil
              replace hlm1 := (Mo.trL (ks := []) (hlm1.mdn []) hs56 (MIL.cons (MI.app MI.z (nx53) (Nat.le_refl _)) MIL.nil)).nil
              have hz14 := hs56.size
              have hle_om := om.le
              refine LR.v (Y.assign rfl rfl) (Wd.u rfl) rfl rfl ?_
              refine LR.nil ?_
              refine hK31 _ _ ?_
              refine CW.region ?_
              refine LR.v (Y.move rfl rfl) (Wd.u rfl) rfl rfl ?_
              refine LR.v (Y.move rfl rfl) (Wd.u rfl) rfl rfl ?_
              refine LR.v (Y.move rfl rfl) (Wd.u rfl) rfl rfl ?_
              refine LR.e (g := fun v => v) (Y.slice ow.rd (0) (out.length) rfl Try.runUnderlying41 Try.sizeOf9 rfl (.inr ⟨_, _, _, rfl, rfl, by first | rfl | omega⟩) (.inl ⟨rfl, rfl⟩) (by omega) (by omega)) (Wd.u rfl) rfl rfl (fun v60 rd60 => ?_)
              have bf_rd60 := BF.of ow.le
              refine LR.z (Z.apnd om rd60 rfl inf41 rfl rfl (by simp [ho0]) (by simp [ho0])) (Wd.u rfl) rfl rfl (fun v61 H61 r61 => ?_)
              obtain ⟨k61, om, hk61, hs61⟩ := r61
              replace hk61 : Nx k56 H56.size k61 := hk61
              replace hs61 := hs61.md
              have df64 := DF.app (df59) (bf_hl.mono hm0.size) hk61
              have dj65 : Dj ko k61 := Dj.app (dj60) ow.le hk61
              have df66 := DF.app ((DF.of dj60)) (bf_rd60.mono (by omega)) hk61
              have nx67 : Nx 0 H0.size k61 := Nx.tr (nx62) hk61 hm0.size
              have nx68 : Nx 0 H0.size k61 := Nx.tr (nx63) hk61 hlm1.size
              replace hl := hl.upL hs61 (DFL.cons df59 DFL.nil)
              replace ow := ow.upL hs61 (DL.cons dj60 DL.nil)
              replace rd60 := rd60.upL hs61 (DFL.cons (DF.of dj60) DFL.nil)
              replace hm0 := (Mo.trL (ks := []) (hm0.mdn []) hs61 (MIL.cons (MI.app MI.z (nx62) (Nat.le_refl _)) MIL.nil)).nil
              replace hlm1 := (Mo.trL (ks := []) (hlm1.mdn []) hs61 (MIL.cons (MI.app MI.z (nx63) (Nat.le_refl _)) MIL.nil)).nil
              have hz15 := hs61.size
              have hle_om := om.le
              refine LR.v (Y.assign rfl rfl) (Wd.u rfl) rfl rfl ?_
              refine LR.nil ?_
              refine hK10 _ _ ?_
              refine hK9 _ _ ?_
              refine CW.region ?_
              refine LR.v (Y.move rfl rfl) (Wd.u rfl) rfl rfl ?_
              refine LR.v (Y.addi rfl rfl rfl (by omega)) (Wd.u rfl) rfl rfl ?_
              refine LR.v (Y.assign rfl rfl) (Wd.u rfl) rfl rfl ?_
              refine LR.nil ?_
              refine QN.sub (hN6 (i + 1, v61, k61, [(namesL x.p)[0]]) _ ?_ ?_) ⟨rfl, rfl, (iv (by omega)), trivial⟩
              · exact ⟨(by omega), by simpa [ho0] using om, (by simp), nx68, hlm1⟩
              · first | omega | (simp only; omega) | (simp; omega)
        ·
          first
          | exfalso; omega
          | skip
            refine LR.gs rfl rfl rfl rfl rfl rfl ?_
            refine LR.gs rfl rfl rfl rfl rfl rfl ?_
            refine LR.gs rfl rfl rfl rfl rfl rfl ?_
            refine LR.gs rfl rfl rfl rfl rfl rfl ?_
            refine LR.gs rfl rfl rfl rfl rfl rfl ?_
            refine LR.gs rfl rfl rfl rfl rfl rfl ?_
            refine LR.v (Y.pick_f rfl rfl rfl) (Wd.u rfl) rfl rfl ?_
            refine LR.nil ?_
            refine hK28 _ _ ?_
            refine CW.cond_f rfl ?_
            refine CW.skip ?_
            refine hK27 _ _ ?_
            refine CW.seq (fun K32 hK32 hE32 => ?_)
            refine CW.region ?_
            refine LR.v (Y.assign rfl rfl) (Wd.u rfl) rfl rfl ?_
            refine LR.nil ?_
            refine hK32 _ _ ?_
            refine CW.seq (fun K33 hK33 hE33 => ?_)
            refine CW.region ?_
            refine LR.v (Y.move rfl rfl) (Wd.u rfl) rfl rfl ?_
            refine LR.v (Y.move rfl rfl) (Wd.u rfl) rfl rfl ?_
            refine LR.v (Y.move rfl rfl) (Wd.u rfl) rfl rfl ?_
            refine LR.e (g := fun v => v) (Y.slice ow.rd (0) (0) rfl Try.runUnderlying41 Try.sizeOf9 rfl (.inl ⟨rfl, rfl⟩) (.inr ⟨_, _, _, rfl, rfl, by first | rfl | simp⟩) (by omega) (by omega)) (Wd.u rfl) rfl rfl (fun v51 rd51 => ?_)
            have bf_rd51 := BF.of ow.le
            have nl52 : Ow 0 9 HL2 fS 1 (.slice none 0 0) [] := Ow.nil fS_len fS_one
            refine LR.z (Z.apnd nl52 rd51 rfl inf41 rfl rfl (by simp [ho0]) (by simp [ho0])) (Wd.u rfl) rfl rfl (fun v52 H52 r52 => ?_)
            obtain ⟨k52, om, hk52, hs52⟩ := r52
            replace hk52 : Nx 0 HL2.size k52 := hk52
            replace hs52 := hs52.md
            have df69 := DF.app (DF.z) (bf_hl.mono hm0.size) hk52
            have dj70 : Dj ko k52 := Dj.app (Dj.z) ow.le hk52
            have df71 := DF.app (DF.z) (bf_rd51.mono (by omega)) hk52
            have nx72 : Nx 0 H0.size k52 := Nx.tr (Nx.refl 0 _) hk52 hm0.size
            have nx73 : Nx 0 H0.size k52 := Nx.tr (Nx.refl 0 _) hk52 hlm1.size
            replace hl := hl.upL hs52 (DFL.cons DF.z DFL.nil)
            replace ow := ow.upL hs52 (DL.cons Dj.z DL.nil)
            replace rd51 := rd51.upL hs52 (DFL.cons DF.z DFL.nil)
            replace hm0 := (Mo.trL (ks := []) (hm0.mdn []) hs52 (MIL.cons MI.z MIL.nil)).nil
            replace hlm1 := (Mo.trL (ks := []) (hlm1.mdn []) hs52 (MIL.cons MI.z MIL.nil)).nil
            have hz16 := hs52.size
            have hle_om := om.le
            refine LR.v (Y.assign rfl rfl) (Wd.u rfl) rfl rfl ?_
            refine LR.nil ?_
            refine hK33 _ _ ?_
            refine CW.seq (fun K34 hK34 hE34 => ?_)
            refine CW.region ?_
            refine LR.v (Y.move rfl rfl) (Wd.u rfl) rfl rfl ?_
            refine LR.v (Y.move rfl rfl) (Wd.u rfl) rfl rfl ?_
            refine LR.z (Z.litw _ ([(namesL x.p)[0]]) rfl inf41 rfl rfl rfl (by decide) (by decide) fS_len fS_one (rfl)) (Wd.u rfl) rfl rfl (fun v55 H55 r55 => ?_)
            obtain ⟨nw55, hs55, ob55, hH55⟩ := r55
            have hzs55 : H55.size = H52.size + 1 := by rw [hH55]; simp
            have df74 := (DF.new (bf_hl.mono hm0.size) : DF _ (H52.size + 1))
            have dj75 : Dj ko (H52.size + 1) := Dj.new ow.le
            have dj76 : Dj k52 (H52.size + 1) := Dj.new om.le
            have nx77 : Nx 0 H0.size (H52.size + 1) := Nx.new hm0.size
            have nx78 : Nx 0 H0.size (H52.size + 1) := Nx.new hlm1.size
            replace hl := hl.nw hs55
            replace ow := ow.nw hs55
            replace om := om.nw hs55
            replace hm0 := hm0.tr hs55
            replace hlm1 := hlm1.tr hs55
            have hz17 := hs55.size
            refine LR.z (Z.apnd om nw55.rd rfl inf41 rfl rfl (by simp [ho0]) (by simp [ho0])) (Wd.u rfl) rfl rfl (fun v56 H56 r56 => ?_)
            obtain ⟨k56, om, hk56, hs56⟩ := r56
            replace hk56 : Nx k52 H55.size k56 := hk56
            replace hs56 := hs56.md
            have df79 := DF.app (df69) (bf_hl.mono hm0.size) hk56
            have dj80 : Dj ko k56 := Dj.app (dj70) ow.le hk56
            have dj81 : Dj (H52.size + 1) k56 := Dj.app (dj76.symm) nw55.le hk56
            have nx82 : Nx 0 H0.size k56 := Nx.tr (nx72) hk56 hm0.size
            have nx83 : Nx 0 H0.size k56 := Nx.tr (nx73) hk56 hlm1.size
            replace hl := hl.upL hs56 (DFL.cons df69 DFL.nil)
            replace ow := ow.upL hs56 (DL.cons dj70 DL.nil)
            replace nw55 := nw55.upL hs56 (DL.cons dj76.symm DL.nil)
            replace hm0 := (Mo.trL (ks := []) (hm0.mdn []) hs56 (MIL.cons (MI.app MI.z (nx72) (Nat.le_refl _)) MIL.nil)).nil
            replace hlm1 := (Mo.trL (ks := []) (hlm1.mdn []) hs56 (MIL.cons (MI.app MI.z (nx73) (Nat.le_refl _)) MIL.nil)).nil
            have hz18 := hs56.size
            have hle_om := om.le
            refine LR.v (Y.assign rfl rfl) (Wd.u rfl) rfl rfl ?_
            refine LR.nil ?_
            refine hK34 _ _ ?_
            refine CW.region ?_
            refine LR.v (Y.move rfl rfl) (Wd.u rfl) rfl rfl ?_
            refine LR.v (Y.move rfl rfl) (Wd.u rfl) rfl rfl ?_
            refine LR.v (Y.move rfl rfl) (Wd.u rfl) rfl rfl ?_
            refine LR.e (g := fun v => v) (Y.slice ow.rd (0) (out.length) rfl Try.runUnderlying41 Try.sizeOf9 rfl (.inr ⟨_, _, _, rfl, rfl, by first | rfl | omega⟩) (.inl ⟨rfl, rfl⟩) (by omega) (by omega)) (Wd.u rfl) rfl rfl (fun v60 rd60 => ?_)
            have bf_rd60 := BF.of ow.le
            refine LR.z (Z.apnd om rd60 rfl inf41 rfl rfl (by simp [ho0]) (by simp [ho0])) (Wd.u rfl) rfl rfl (fun v61 H61 r61 => ?_)
            obtain ⟨k61, om, hk61, hs61⟩ := r61
            replace hk61 : Nx k56 H56.size k61 := hk61
            replace hs61 := hs61.md
            have df84 := DF.app (df79) (bf_hl.mono hm0.size) hk61
            have dj85 : Dj ko k61 := Dj.app (dj80) ow.le hk61
            have df86 := DF.app ((DF.of dj80)) (bf_rd60.mono (by omega)) hk61
            have nx87 : Nx 0 H0.size k61 := Nx.tr (nx82) hk61 hm0.size
            have nx88 : Nx 0 H0.size k61 := Nx.tr (nx83) hk61 hlm1.size
            replace hl := hl.upL hs61 (DFL.cons df79 DFL.nil)
            replace ow := ow.upL hs61 (DL.cons dj80 DL.nil)
            replace rd60 := rd60.upL hs61 (DFL.cons (DF.of dj80) DFL.nil)
            replace hm0 := (Mo.trL (ks := []) (hm0.mdn []) hs61 (MIL.cons (MI.app MI.z (nx82) (Nat.le_refl _)) MIL.nil)).nil
            replace hlm1 := (Mo.trL (ks := []) (hlm1.mdn []) hs61 (MIL.cons (MI.app MI.z (nx83) (Nat.le_refl _)) MIL.nil)).nil
            have hz19 := hs61.size
            have hle_om := om.le
            refine LR.v (Y.assign rfl rfl) (Wd.u rfl) rfl rfl ?_
            refine LR.nil ?_
            refine hK10 _ _ ?_
            refine hK9 _ _ ?_
            refine CW.region ?_
            refine LR.v (Y.move rfl rfl) (Wd.u rfl) rfl rfl ?_
            refine LR.v (Y.addi rfl rfl rfl (by omega)) (Wd.u rfl) rfl rfl ?_
            refine LR.v (Y.assign rfl rfl) (Wd.u rfl) rfl rfl ?_
            refine LR.nil ?_
            refine QN.sub (hN6 (i + 1, v61, k61, [(namesL x.p)[0]]) _ ?_ ?_) ⟨rfl, rfl, (iv (by omega)), trivial⟩
            · exact ⟨(by omega), by simpa [ho0] using om, (by simp), nx88, hlm1⟩
            · first | omega | (simp only; omega) | (simp; omega)
  ·
    refine CW.exit (hE7 (.exit 0) nofun _ _ (hE6 (.exit 0) nofun _ _ (hX5 _ _ ?_)))
    refine hK3 _ _ ?_
    refine CW.seq (fun K35 hK35 hE35 => ?_)
    refine CW.region ?_
    refine LR.v (Y.move rfl rfl) (Wd.u rfl) rfl rfl ?_
    refine LR.v (Y.assign rfl rfl) (Wd.u rfl) rfl rfl ?_
    refine LR.nil ?_
    refine hK35 _ _ ?_
    refine CW.ret (hret .ret (.inr rfl) _ _ _ (res1 rfl rfl) ?_)
    exact ⟨vo, ko, out, rfl, ow, nx2, (by omega), hm0⟩

theorem crowded1_ct (v : Value) (x : Fl) (w0 : World) (H0 : Heap)
    (hl : RdT H0 fFl 3 v [x]) (hp : x.p.length ≤ 1099511627776) (hn : 0 < (namesL x.p).length) :
    Ct Try.prog w0 42 #[v] H0 (fun r H2 => r = .bool false ∧ Nw H0 H2) := by
  refine Ct.enter (args := [v]) Try.func42 rfl rfl rfl ?_
  intro Q0 hret
  have hm0 : Nw H0 H0 := Mo.refl _ _
  replace hl := hl.bnd
  have bf_hl := Rd.bf hl
  refine CW.seq (fun K1 hK1 hE1 => ?_)
  refine CW.region ?_
  refine LR.v (Y.assign rfl rfl) (Wd.u rfl) rfl rfl ?_
  refine LR.nil ?_
  refine hK1 _ _ ?_
  refine CW.seq (fun K2 hK2 hE2 => ?_)
  refine CW.region ?_
  refine LR.v (Y.move rfl rfl) (Wd.u rfl) rfl rfl ?_
  -- call selvage/selvageref15.tops
  refine LR.call rfl Try.call53 rfl (Wd.u rfl) rfl rfl (tops1_ct v x w0 _ hl.any hp hn) (fun v6 H6 r6 => ?_)
  obtain ⟨vt_, kt, out, rfl, ot, hkt, hol, hs6⟩ := r6
  have df1 := DF.app (DF.z) (bf_hl.mono hm0.size) hkt
  have nx2 : Nx 0 H0.size kt := Nx.tr (Nx.refl 0 _) hkt hm0.size
  replace hl := hl.nw hs6
  replace hm0 := hm0.tr hs6
  have hz1 := hs6.size
  have hle_ot := ot.le
  refine LR.v (Y.assign rfl rfl) (Wd.u rfl) rfl rfl ?_
  refine LR.nil ?_
  refine hK2 _ _ ?_
  refine CW.seq (fun K3 hK3 hE3 => ?_)
  refine CW.seq (fun K4 hK4 hE4 => ?_)
  refine CW.region ?_
  refine LR.v (Y.move rfl rfl) (Wd.u rfl) rfl rfl ?_
  refine LR.v (Y.len ot.rd rfl Try.runUnderlying41 rfl) (Wd.u rfl) rfl rfl ?_
  refine LR.v ((Y.gtr rfl rfl rfl).isF (by omega)) (Wd.u rfl) rfl rfl ?_
  refine LR.nil ?_
  refine hK4 _ _ ?_
  refine CW.cond_f rfl ?_
  refine CW.skip ?_
  refine hK3 _ _ ?_
  refine CW.seq (fun K5 hK5 hE5 => ?_)
  refine CW.seq (fun K6 hK6 hE6 => ?_)
  refine CW.region ?_
  refine LR.v (Y.move rfl rfl) (Wd.u rfl) rfl rfl ?_
  refine LR.v (Y.len hl rfl Try.runUnderlying26 rfl) (Wd.u rfl) rfl rfl ?_
  refine LR.v ((Y.leq rfl rfl rfl).isT (by simp)) (Wd.u rfl) rfl rfl ?_
  refine LR.nil ?_
  refine hK6 _ _ ?_
  refine CW.cond_t rfl ?_
  refine CW.seq (fun K7 hK7 hE7 => ?_)
  refine CW.region ?_
  refine LR.v (Y.assign rfl rfl) (Wd.u rfl) rfl rfl ?_
  refine LR.nil ?_
  refine hK7 _ _ ?_
  refine CW.ret (hE5 .ret nofun _ _ (hret .ret (.inr rfl) _ _ _ (res1 rfl rfl) ?_))
  exact ⟨rfl, hm0⟩

set_option maxHeartbeats 4000000 in
theorem check1_ct (v : Value) (x : Fl) (w0 : World) (H0 : Heap)
    (hl : RdT H0 fFl 3 v [x]) (hp : x.p.length ≤ 1099511627776) (hv : x.v.len = x.d.length) :
    Ct Try.prog w0 26 #[v] H0 (fun r H2 => r = .int .i64 (chkF x.c) ∧ Nw H0 H2) := by
  refine Ct.enter (args := [v]) Try.func26 rfl rfl rfl ?_
  intro Q0 hret
  have hm0 : Nw H0 H0 := Mo.refl _ _
  replace hl := hl.bnd
  have bf_hl := Rd.bf hl
  refine CW.seq (fun K1 hK1 hE1 => ?_)
  refine CW.region ?_
  refine LR.v (Y.assign rfl rfl) (Wd.u rfl) rfl rfl ?_
  refine LR.nil ?_
  refine hK1 _ _ ?_
  refine CW.seq (fun K2 hK2 hE2 => ?_)
  refine CW.seq (fun K3 hK3 hE3 => ?_)
  refine CW.region ?_
  refine LR.v (Y.move rfl rfl) (Wd.u rfl) rfl rfl ?_
  refine LR.v (Y.len hl rfl Try.runUnderlying26 rfl) (Wd.u rfl) rfl rfl ?_
  refine LR.v ((Y.gtr rfl rfl rfl).isF (by simp)) (Wd.u rfl) rfl rfl ?_
  refine LR.nil ?_
  refine hK3 _ _ ?_
  refine CW.cond_f rfl ?_
  refine CW.skip ?_
  refine hK2 _ _ ?_
  refine CW.seq (fun K4 hK4 hE4 => ?_)
  refine CW.seq (fun K5 hK5 hE5 => ?_)
  refine CW.region ?_
  refine LR.v (Y.assign rfl rfl) (Wd.u rfl) rfl rfl ?_
  refine LR.nil ?_
  refine hK5 _ _ ?_
  refine CW.block (fun K6 hK6 hX6 hE6 => ?_)
  refine CW.loop (fun (i : (Nat)) => [(0, v), (3, .int .i64 i)])
    (fun (i : (Nat)) (H : Heap) => (i ≤ 1) ∧ (i = 1 → (1 ≤ x.k ∧ x.k ≤ 3) ∧ 0 < (namesL x.p).length ∧ x.d.length ≤ 65536) ∧ Nw H0 H)
    (fun (i : (Nat)) => 1 - i) 0 ⟨rfl, rfl, trivial⟩ ?_ ?_
  ·
    exact ⟨(by omega), (fun h => by omega), Mo.refl _ _⟩
  intro i HL1 hI1 K7 hN7 hE7
  obtain ⟨hi, hok, hlm1⟩ := hI1
  replace hl := hl.nw hlm1
  replace hm0 := hm0.tr hlm1
  have hz1 := hlm1.size
  refine CW.seq (fun K8 hK8 hE8 => ?_)
  refine CW.seq (fun K9 hK9 hE9 => ?_)
  refine CW.region ?_
  refine LR.v (Y.move rfl rfl) (Wd.u rfl) rfl rfl ?_
  refine LR.v (Y.move rfl rfl) (Wd.u rfl) rfl rfl ?_
  refine LR.v (Y.len hl rfl Try.runUnderlying26 rfl) (Wd.u rfl) rfl rfl ?_
  refine LR.v (Y.lss rfl rfl rfl) (Wd.u rfl) rfl rfl ?_
  refine LR.nil ?_
  refine hK9 _ _ ?_
  refine CW.condp rfl (fun c11 => ?_) (fun c11 => ?_)
  ·
    refine CW.skip ?_
    refine hK8 _ _ ?_
    refine CW.seq (fun K10 hK10 hE10 => ?_)
    refine CW.block (fun K11 hK11 hX11 hE11 => ?_)
    refine CW.seq (fun K12 hK12 hE12 => ?_)
    refine CW.block (fun K13 hK13 hX13 hE13 => ?_)
    refine CW.seq (fun K14 hK14 hE14 => ?_)
    refine CW.region ?_
    refine LR.v (Y.move rfl rfl) (Wd.u rfl) rfl rfl ?_
    refine LR.v (Y.move rfl rfl) (Wd.u rfl) rfl rfl ?_
    have hi0 : i = 0 := by simp only [List.length_cons, List.length_nil] at c11; omega
    have hj0 : (i : Int) = ((0 : Nat) : Int) := by omega
    refine LR.e (g := fun ad => .pointer (some ad)) (Y.indexAddrF hl (0) rfl Try.runUnderlying26 Try.sizeOf35 rfl rfl hj0 (by first | omega | (simp; omega) | (simp; done))) (Wd.u rfl) rfl rfl (fun ad17 pt17 => ?_)
    have bf_pt17 := bf_hl
    refine LR.v (Y.fieldAddr pt17.pt rfl Try.runUnderlying35 rfl rfl Try.sizeOf3 (by decide) rfl) (Wd.u rfl) rfl rfl ?_
    refine LR.v (Y.cast (v2 := .int .i64 x.k) (Y.load1 (pt17.pt.drop 1) rfl Try.isAgg3 rfl) (rfl)) (Wd.u rfl) rfl rfl ?_
    refine LR.v (Y.lss rfl rfl rfl) (Wd.u rfl) rfl rfl ?_
    refine LR.v (Y.move rfl rfl) (Wd.u rfl) rfl rfl ?_
    refine LR.splitp (d := 21) rfl (fun g21 => ?_) (fun g21 => ?_)
    ·
      refine LR.gs rfl rfl rfl rfl rfl rfl ?_
      refine LR.gs rfl rfl rfl rfl rfl rfl ?_
      refine LR.gs rfl rfl rfl rfl rfl rfl ?_
      refine LR.gs rfl rfl rfl rfl rfl rfl ?_
      refine LR.gs rfl rfl rfl rfl rfl rfl ?_
      refine LR.gs rfl rfl rfl rfl rfl rfl ?_
      refine LR.v (Y.pick_t rfl rfl rfl) (Wd.u rfl) rfl rfl ?_
      refine LR.v (Y.assign rfl rfl) (Wd.u rfl) rfl rfl ?_
      refine LR.nil ?_
      refine hK14 _ _ ?_
      refine CW.cond_t rfl ?_
      refine CW.seq (fun K15 hK15 hE15 => ?_)
      refine CW.region ?_
      refine LR.v (Y.assign rfl rfl) (Wd.u rfl) rfl rfl ?_
      refine LR.nil ?_
      refine hK15 _ _ ?_
      refine CW.ret (hE13 .ret nofun (by simp) _ _ (hE12 .ret nofun _ _ (hE11 .ret nofun (by simp) _ _ (hE10 .ret nofun _ _ (hE7 .ret nofun _ _ (hE6 .ret nofun (by simp) _ _ (hE4 .ret nofun _ _ (hret .ret (.inr rfl) _ _ _ (res1 rfl rfl) ?_))))))))
      exact ⟨by rw [chkF, if_pos (by simp only [Fl.c]; omega)], hm0⟩
    ·
      refine LR.v (Y.move rfl rfl) (Wd.g rfl rfl rfl) rfl rfl ?_
      refine LR.v (Y.move rfl rfl) (Wd.g rfl rfl rfl) rfl rfl ?_
      refine LR.e (g := fun ad => .pointer (some ad)) (Y.indexAddrF hl (0) rfl Try.runUnderlying26 Try.sizeOf35 rfl rfl hj0 (by first | omega | (simp; omega) | (simp; done))) (Wd.g rfl rfl rfl) rfl rfl (fun ad24 pt24 => ?_)
      have bf_pt24 := bf_hl
      refine LR.v (Y.fieldAddr pt24.pt rfl Try.runUnderlying35 rfl rfl Try.sizeOf3 (by decide) rfl) (Wd.g rfl rfl rfl) rfl rfl ?_
      refine LR.v (Y.cast (v2 := .int .i64 x.k) (Y.load1 (pt24.pt.drop 1) rfl Try.isAgg3 rfl) (rfl)) (Wd.g rfl rfl rfl) rfl rfl ?_
      refine LR.v (Y.gtr rfl rfl rfl) (Wd.g rfl rfl rfl) rfl rfl ?_
      refine LR.v (Y.pick_f rfl rfl rfl) (Wd.u rfl) rfl rfl ?_
      refine LR.v (Y.assign rfl rfl) (Wd.u rfl) rfl rfl ?_
      refine LR.nil ?_
      refine hK14 _ _ ?_
      refine CW.condp rfl (fun c14 => ?_) (fun c14 => ?_)
      ·
        refine CW.seq (fun K16 hK16 hE16 => ?_)
        refine CW.region ?_
        refine LR.v (Y.assign rfl rfl) (Wd.u rfl) rfl rfl ?_
        refine LR.nil ?_
        refine hK16 _ _ ?_
        refine CW.ret (hE13 .ret nofun (by simp) _ _ (hE12 .ret nofun _ _ (hE11 .ret nofun (by simp) _ _ (hE10 .ret nofun _ _ (hE7 .ret nofun _ _ (hE6 .ret nofun (by simp) _ _ (hE4 .ret nofun _ _ (hret .ret (.inr rfl) _ _ _ (res1 rfl rfl) ?_))))))))
        exact ⟨by rw [chkF, if_pos (by simp only [Fl.c]; omega)], hm0⟩
      ·
        refine CW.seq (fun K17 hK17 hE17 => ?_)
        refine CW.region ?_
        refine LR.v (Y.move rfl rfl) (Wd.u rfl) rfl rfl ?_
        refine LR.v (Y.move rfl rfl) (Wd.u rfl) rfl rfl ?_
        refine LR.e (g := fun ad => .pointer (some ad)) (Y.indexAddrF hl (0) rfl Try.runUnderlying26 Try.sizeOf35 rfl rfl hj0 (by first | omega | (simp; omega) | (simp; done))) (Wd.u rfl) rfl rfl (fun ad32 pt32 => ?_)
        have bf_pt32 := bf_hl
        refine LR.v (Y.fieldAddr pt32.pt rfl Try.runUnderlying35 rfl rfl Try.sizeOf9 (by decide) rfl) (Wd.u rfl) rfl rfl ?_
        refine LR.v (Y.cast (v2 := Str x.p) (Y.load1 (pt32.pt.drop 0) rfl Try.isAgg9 rfl) (rfl)) (Wd.u rfl) rfl rfl ?_
        -- call selvage/selvageref15.Names
        refine LR.call rfl Try.call21 rfl (Wd.u rfl) rfl rfl (names_ct x.p w0 _ hp) (fun v35 H35 r35 => ?_)
        obtain ⟨vn_, kn, rfl, on, hkn, hs35⟩ := r35
        have df1 := DF.app (DF.z) (bf_hl.mono hm0.size) hkn
        have df2 := DF.app (DF.z) (bf_pt32.mono hm0.size) hkn
        have nx3 : Nx 0 H0.size kn := Nx.tr (Nx.refl 0 _) hkn hm0.size
        have nx4 : Nx 0 H0.size kn := Nx.tr (Nx.refl 0 _) hkn hlm1.size
        replace hl := hl.nw hs35
        replace pt32 := pt32.nw hs35
        replace hm0 := hm0.tr hs35
        replace hlm1 := hlm1.tr hs35
        have hz2 := hs35.size
        have hle_on := on.le
        refine LR.v (Y.len on.rd rfl Try.runUnderlying41 rfl) (Wd.u rfl) rfl rfl ?_
        refine LR.v (Y.eql rfl rfl rfl) (Wd.u rfl) rfl rfl ?_
        refine LR.v (Y.assign rfl rfl) (Wd.u rfl) rfl rfl ?_
        refine LR.nil ?_
        refine hK17 _ _ ?_
        refine CW.condp rfl (fun c29 => ?_) (fun c29 => ?_)
        ·
          refine CW.seq (fun K18 hK18 hE18 => ?_)
          refine CW.region ?_
          refine LR.v (Y.assign rfl rfl) (Wd.u rfl) rfl rfl ?_
          refine LR.nil ?_
          refine hK18 _ _ ?_
          refine CW.ret (hE13 .ret nofun (by simp) _ _ (hE12 .ret nofun _ _ (hE11 .ret nofun (by simp) _ _ (hE10 .ret nofun _ _ (hE7 .ret nofun _ _ (hE6 .ret nofun (by simp) _ _ (hE4 .ret nofun _ _ (hret .ret (.inr rfl) _ _ _ (res1 rfl rfl) ?_))))))))
          exact ⟨by rw [chkF, if_neg (by simp only [Fl.c]; omega), if_pos (by simp only [Fl.c]; omega)], hm0⟩
        ·
          refine CW.seq (fun K19 hK19 hE19 => ?_)
          refine CW.region ?_
          refine LR.v (Y.move rfl rfl) (Wd.u rfl) rfl rfl ?_
          refine LR.v (Y.move rfl rfl) (Wd.u rfl) rfl rfl ?_
          refine LR.e (g := fun ad => .pointer (some ad)) (Y.indexAddrF hl (0) rfl Try.runUnderlying26 Try.sizeOf35 rfl rfl hj0 (by first | omega | (simp; omega) | (simp; done))) (Wd.u rfl) rfl rfl (fun ad41 pt41 => ?_)
          have bf_pt41 := bf_hl
          refine LR.v (Y.fieldAddr pt41.pt rfl Try.runUnderlying35 rfl rfl Try.sizeOf22 (by decide) rfl) (Wd.u rfl) rfl rfl ?_
          refine LR.v (Y.cast (v2 := x.v.v) (Y.load1 (pt41.pt.drop 2) rfl Try.isAgg22 rfl) (rfl)) (Wd.u rfl) rfl rfl ?_
          refine LR.v (Y.cast (v2 := .int .i64 x.d.length) (Y.lenv rfl Try.runUnderlying22 rfl) (by rw [← hv])) (Wd.u rfl) rfl rfl ?_
          refine LR.v (Y.gtr rfl rfl rfl) (Wd.u rfl) rfl rfl ?_
          refine LR.v (Y.assign rfl rfl) (Wd.u rfl) rfl rfl ?_
          refine LR.nil ?_
          refine hK19 _ _ ?_
          refine CW.condp rfl (fun c38 => ?_) (fun c38 => ?_)
          ·
            refine CW.seq (fun K20 hK20 hE20 => ?_)
            refine CW.region ?_
            refine LR.v (Y.assign rfl rfl) (Wd.u rfl) rfl rfl ?_
            refine LR.nil ?_
            refine hK20 _ _ ?_
            refine CW.ret (hE13 .ret nofun (by simp) _ _ (hE12 .ret nofun _ _ (hE11 .ret nofun (by simp) _ _ (hE10 .ret nofun _ _ (hE7 .ret nofun _ _ (hE6 .ret nofun (by simp) _ _ (hE4 .ret nofun _ _ (hret .ret (.inr rfl) _ _ _ (res1 rfl rfl) ?_))))))))
            exact ⟨by rw [chkF, if_neg (by simp only [Fl.c]; omega), if_neg (by simp only [Fl.c]; omega), if_pos (by simp only [Fl.c]; omega)], hm0⟩
          ·
            refine CW.seq (fun K21 hK21 hE21 => ?_)
            refine CW.region_draw rfl (by kernel_rfl) ?_
            refine LR.v (Y.move rfl rfl) (Wd.u rfl) rfl rfl ?_
            refine LR.v ((Y.gtr rfl rfl rfl).isF (by omega)) (Wd.u rfl) rfl rfl ?_
            refine LR.v (Y.move rfl rfl) (Wd.u rfl) rfl rfl ?_
            refine LR.gs rfl rfl rfl rfl rfl rfl ?_
            refine LR.gs rfl rfl rfl rfl rfl rfl ?_
            refine LR.gs rfl rfl rfl rfl rfl rfl ?_
            refine LR.gs rfl rfl rfl rfl rfl rfl ?_
            refine LR.gs rfl rfl rfl rfl rfl rfl ?_
            refine LR.gs rfl rfl rfl rfl rfl rfl ?_
            refine LR.gs rfl rfl rfl rfl rfl rfl ?_
            refine LR.gs rfl rfl rfl rfl rfl rfl ?_
            refine LR.gs rfl rfl rfl rfl rfl rfl ?_
            refine LR.gs rfl rfl rfl rfl rfl rfl ?_
            refine LR.gs rfl rfl rfl rfl rfl rfl ?_
            refine LR.gs rfl rfl rfl rfl rfl rfl ?_
            refine LR.v (Y.pick_f rfl rfl rfl) (Wd.u rfl) rfl rfl ?_
            refine LR.v (Y.assign rfl rfl) (Wd.u rfl) rfl rfl ?_
            refine LR.nil ?_
            refine hK21 _ _ ?_
            refine CW.cond_f rfl ?_
            refine CW.skip ?_
            refine hK13 _ _ ?_
            refine hK12 _ _ ?_
            refine CW.seq (fun K22 hK22 hE22 => ?_)
            refine CW.region ?_
            refine LR.v (Y.assign rfl rfl) (Wd.u rfl) rfl rfl ?_
            refine LR.nil ?_
            refine hK22 _ _ ?_
            refine CW.block (fun K23 hK23 hX23 hE23 => ?_)
            refine CW.loop (fun (_ : Unit) => [(0, v), (3, .int .i64 i), (4, .int .i64 0)])
              (fun (_ : Unit) (H : Heap) => (True) ∧ Nw H35 H)
              (fun (_ : Unit) => 0) () ⟨rfl, rfl, rfl, trivial⟩ ?_ ?_
            ·
              exact ⟨trivial, Mo.refl _ _⟩
            intro _ HL2 hI2 K24 hN24 hE24
            obtain ⟨ht, hlm2⟩ := hI2
            replace hl := hl.nw hlm2
            replace hm0 := hm0.tr hlm2
            replace hlm1 := hlm1.tr hlm2
            have hz3 := hlm2.size
            refine CW.seq (fun K25 hK25 hE25 => ?_)
            refine CW.seq (fun K26 hK26 hE26 => ?_)
            refine CW.region ?_
            refine LR.v (Y.move rfl rfl) (Wd.u rfl) rfl rfl ?_
            refine LR.v (Y.move rfl rfl) (Wd.u rfl) rfl rfl ?_
            refine LR.v ((Y.lss rfl rfl rfl).isF (by omega)) (Wd.u rfl) rfl rfl ?_
            refine LR.nil ?_
            refine hK26 _ _ ?_
            refine CW.cond_f rfl ?_
            refine CW.exit (hE25 (.exit 3) nofun _ _ (hE24 (.exit 3) nofun _ _ (hX23 _ _ ?_)))
            refine hK11 _ _ ?_
            refine hK10 _ _ ?_
            refine CW.region ?_
            refine LR.v (Y.move rfl rfl) (Wd.u rfl) rfl rfl ?_
            refine LR.v (Y.addi rfl rfl rfl (by omega)) (Wd.u rfl) rfl rfl ?_
            refine LR.v (Y.assign rfl rfl) (Wd.u rfl) rfl rfl ?_
            refine LR.nil ?_
            refine QN.sub (hN7 (i + 1) _ ?_ ?_) ⟨rfl, (iv (by omega)), trivial⟩
            · exact ⟨(by omega), (fun _ => ⟨by omega, by omega, by omega⟩), hlm1⟩
            · first | omega | (simp only; omega) | (simp; omega)
  ·
    refine CW.exit (hE8 (.exit 0) nofun _ _ (hE7 (.exit 0) nofun _ _ (hX6 _ _ ?_)))
    refine hK4 _ _ ?_
    refine CW.seq (fun K27 hK27 hE27 => ?_)
    refine CW.seq (fun K28 hK28 hE28 => ?_)
    refine CW.region ?_
    refine LR.v (Y.move rfl rfl) (Wd.u rfl) rfl rfl ?_
    -- call selvage/selvageref15.crowded
    refine LR.call rfl Try.call42 rfl (Wd.u rfl) rfl rfl (crowded1_ct v x w0 _ hl.any hp (hok (by simp only [List.length_cons, List.length_nil] at c11; omega)).2.1) (fun v80 H80 r80 => ?_)
    obtain ⟨rfl, hs80⟩ := r80
    replace hl := hl.nw hs80
    replace hm0 := hm0.tr hs80
    have hz4 := hs80.size
    refine LR.nil ?_
    refine hK28 _ _ ?_
    refine CW.cond_f rfl ?_
    refine CW.skip ?_
    refine hK27 _ _ ?_
    refine CW.seq (fun K29 hK29 hE29 => ?_)
    refine CW.region ?_
    refine LR.v (Y.assign rfl rfl) (Wd.u rfl) rfl rfl ?_
    refine LR.nil ?_
    refine hK29 _ _ ?_
    refine CW.ret (hret .ret (.inr rfl) _ _ _ (res1 rfl rfl) ?_)
    obtain ⟨h1, h2, h3⟩ := hok (by simp only [List.length_cons, List.length_nil] at c11; omega)
    exact ⟨by rw [chkF, if_neg (by simp only [Fl.c]; omega), if_neg (by simp only [Fl.c]; omega), if_neg (by simp only [Fl.c]; omega)], hm0⟩

end Go.Proofs.Ytclhnkmkejijjaa.RenL
