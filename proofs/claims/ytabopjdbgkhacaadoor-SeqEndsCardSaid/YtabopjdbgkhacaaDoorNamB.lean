/-
  Names: what a name is, by the program.
-/
import Derived.Lib.SplitLaws
import Derived.Test.YtabopjdbgkhacaaDoorNamA
namespace Go.Proofs.YtabopjdbgkhacaaDoor.NamB
open Go.Proofs.YtabopjdbgkhacaaDoor.E Go.RowKit Go.Proofs.YtabopjdbgkhacaaDoor.NamA
set_option maxRecDepth 20000
set_option linter.unusedVariables false
set_option linter.unusedSimpArgs false
set_option linter.unusedSectionVars false

theorem idx_ct (s : List UInt8) (c : UInt8) (w0 : World) (H0 : Heap) : Ct Tryd.prog w0 59 #[Str s, .int .u8 c.toNat] H0 (fun r H2 => r = .int .i64 (Lib.indexByte s c) ∧ Nw H0 H2) :=
  Ct.still (fun w ha => by
    have h : Calls Tryd.prog 59 #[Str s, .int .u8 c.toNat] w fun e w' => e = .returned (.int .i64 (Lib.indexByte s ((c.toNat : Int)).toNat.toUInt8)) ∧ w' = w := Any.strings_IndexByte Tryd.lays137 ⟨s.toArray⟩ c.toNat w
    have e : ((c.toNat : Int)).toNat.toUInt8 = c := by simp
    rw [e] at h; exact h)
theorem any_take {α : Type} {l : List α} {p : α → Bool} {j : Nat} (h : (l.take j).any p = false) (hj : j < l.length) (h2 : p l[j] = false) : (l.take (j + 1)).any p = false := by
  rw [List.take_succ_eq_append_getElem hj, List.any_append, h]; simpa using h2
theorem any_at {α : Type} {l : List α} {p : α → Bool} {j : Nat} (hj : j < l.length) (h : p l[j] = true) : l.any p = true := List.any_eq_true.2 ⟨l[j], List.getElem_mem hj, h⟩
def goodB (c : UInt8) : Bool := decide ((97 ≤ c.toNat ∧ c.toNat ≤ 122) ∨ (65 ≤ c.toNat ∧ c.toNat ≤ 90) ∨ (48 ≤ c.toNat ∧ c.toNat ≤ 57) ∨ c.toNat = 46 ∨ c.toNat = 95 ∨ c.toNat = 45 ∨ c.toNat = 47)
theorem goodT {c : UInt8} (h : (97 ≤ c.toNat ∧ c.toNat ≤ 122) ∨ (65 ≤ c.toNat ∧ c.toNat ≤ 90) ∨ (48 ≤ c.toNat ∧ c.toNat ≤ 57) ∨ c.toNat = 46 ∨ c.toNat = 95 ∨ c.toNat = 45 ∨ c.toNat = 47) : Value.bool true = .bool (goodB c) := by rw [goodB, decide_eq_true h]
theorem goodF {c : UInt8} (h : ¬ ((97 ≤ c.toNat ∧ c.toNat ≤ 122) ∨ (65 ≤ c.toNat ∧ c.toNat ≤ 90) ∨ (48 ≤ c.toNat ∧ c.toNat ≤ 57) ∨ c.toNat = 46 ∨ c.toNat = 95 ∨ c.toNat = 45 ∨ c.toNat = 47)) : Value.bool false = .bool (goodB c) := by rw [goodB, decide_eq_false h]
theorem idx_sign (c : UInt8) : 0 ≤ Lib.indexByte [46, 95, 45, 47] c ↔ (c.toNat = 46 ∨ c.toNat = 95 ∨ c.toNat = 45 ∨ c.toNat = 47) := by
  have h : ∀ n : Fin 256, (decide (0 ≤ Lib.indexByte [46, 95, 45, 47] (UInt8.ofNat n.val)) = decide (n.val = 46 ∨ n.val = 95 ∨ n.val = 45 ∨ n.val = 47)) := by decide +kernel
  have := h ⟨c.toNat, c.toNat_lt⟩
  simp only [UInt8.ofNat_toNat] at this
  exact decide_eq_decide.1 this
def partB (s : List UInt8) : Bool := decide (s ≠ [] ∧ (s.getD 0 0).toNat ≠ 46 ∧ (s.getD 0 0).toNat ≠ 45 ∧ (s.getD (s.length - 1) 0).toNat ≠ 46) && !Lib.contains s [46, 46]
theorem getD_at {l : List UInt8} {i : Nat} (h : i < l.length) : l.getD i 0 = l[i] := by simp [List.getD, h]
theorem partT {s : List UInt8} (h : s ≠ [] ∧ (s.getD 0 0).toNat ≠ 46 ∧ (s.getD 0 0).toNat ≠ 45 ∧ (s.getD (s.length - 1) 0).toNat ≠ 46) : Value.bool (!Lib.contains s [46, 46]) = .bool (partB s) := by rw [partB, decide_eq_true h, Bool.true_and]
theorem partF {s : List UInt8} (h : ¬ (s ≠ [] ∧ (s.getD 0 0).toNat ≠ 46 ∧ (s.getD 0 0).toNat ≠ 45 ∧ (s.getD (s.length - 1) 0).toNat ≠ 46)) : Value.bool false = .bool (partB s) := by rw [partB, decide_eq_false h, Bool.false_and]
/-- what is wrong with a text as a name -/
def chk (s : List UInt8) : Int := if s.length > 60 ∨ (s.any (fun c => !goodB c)) = true then 7 else if (sp [] s).any (fun p => !partB p) = true then 7 else 0
theorem sp_mem : ∀ {s cur x : List UInt8}, x ∈ sp cur s → x.length ≤ cur.length + s.length
  | [], cur, x, h => by simp [sp] at h; subst h; simp
  | c :: l, cur, x, h => by
    rw [sp] at h
    split at h
    · rcases List.mem_cons.1 h with h | h
      · subst h; omega
      · have := sp_mem h; simp only [List.length_nil, List.length_cons] at *; omega
    · have := sp_mem h; simp only [List.length_append, List.length_cons, List.length_nil] at *; omega

theorem sign_ct (c : UInt8) (w0 : World) (H0 : Heap)
     :
    Ct Tryd.prog w0 37 #[.int .u8 c.toNat] H0 (fun r H2 => r = .bool (goodB c) ∧ Nw H0 H2) := by
  refine Ct.enter (args := [.int .u8 c.toNat]) Tryd.func37 rfl rfl rfl ?_
  intro Q0 hret
  have hm0 : Nw H0 H0 := Mo.refl _ _
  refine CW.seq (fun K1 hK1 hE1 => ?_)
  refine CW.region ?_
  refine LR.v (Y.assign rfl rfl) (Wd.u rfl) rfl rfl ?_
  refine LR.nil ?_
  refine hK1 _ _ ?_
  refine CW.seq (fun K2 hK2 hE2 => ?_)
  refine CW.block (fun K3 hK3 hX3 hE3 => ?_)
  refine CW.seq (fun K4 hK4 hE4 => ?_)
  refine CW.block (fun K5 hK5 hX5 hE5 => ?_)
  refine CW.block (fun K6 hK6 hX6 hE6 => ?_)
  refine CW.block (fun K7 hK7 hX7 hE7 => ?_)
  refine CW.seq (fun K8 hK8 hE8 => ?_)
  refine CW.seq (fun K9 hK9 hE9 => ?_)
  refine CW.seq (fun K10 hK10 hE10 => ?_)
  refine CW.region ?_
  refine LR.v (Y.move rfl rfl) (Wd.u rfl) rfl rfl ?_
  refine LR.v (Y.geq rfl rfl rfl) (Wd.u rfl) rfl rfl ?_
  refine LR.v (Y.move rfl rfl) (Wd.u rfl) rfl rfl ?_
  refine LR.splitp (d := 6) rfl (fun g6 => ?_) (fun g6 => ?_)
  ·
    refine LR.v (Y.move rfl rfl) (Wd.g rfl rfl rfl) rfl rfl ?_
    refine LR.v (Y.leq rfl rfl rfl) (Wd.g rfl rfl rfl) rfl rfl ?_
    refine LR.v (Y.pick_t rfl rfl rfl) (Wd.u rfl) rfl rfl ?_
    refine LR.v (Y.assign rfl rfl) (Wd.u rfl) rfl rfl ?_
    refine LR.nil ?_
    refine hK10 _ _ ?_
    refine CW.condp rfl (fun c3 => ?_) (fun c3 => ?_)
    ·
      refine CW.exit (hE9 (.exit 1) nofun _ _ (hE8 (.exit 1) nofun _ _ (hX7 _ _ ?_)))
      refine hK6 _ _ ?_
      refine hK5 _ _ ?_
      refine hK4 _ _ ?_
      refine CW.seq (fun K11 hK11 hE11 => ?_)
      refine CW.seq (fun K12 hK12 hE12 => ?_)
      refine CW.region ?_
      refine LR.v (Y.assign rfl rfl) (Wd.u rfl) rfl rfl ?_
      refine LR.nil ?_
      refine hK12 _ _ ?_
      refine CW.ret (hE11 .ret nofun _ _ (hE3 .ret nofun (by simp) _ _ (hE2 .ret nofun _ _ (hret .ret (.inr rfl) _ _ _ (res1 rfl rfl) ?_))))
      exact ⟨by first | exact goodT (by omega) | (rw [goodB]; exact bdec (by rw [hix]; omega)), hm0⟩
    ·
      refine CW.skip ?_
      refine hK9 _ _ ?_
      refine CW.seq (fun K13 hK13 hE13 => ?_)
      refine CW.seq (fun K14 hK14 hE14 => ?_)
      refine CW.region ?_
      refine LR.v (Y.move rfl rfl) (Wd.u rfl) rfl rfl ?_
      refine LR.v (Y.geq rfl rfl rfl) (Wd.u rfl) rfl rfl ?_
      refine LR.v (Y.move rfl rfl) (Wd.u rfl) rfl rfl ?_
      refine LR.splitp (d := 13) rfl (fun g13 => ?_) (fun g13 => ?_)
      ·
        refine LR.v (Y.move rfl rfl) (Wd.g rfl rfl rfl) rfl rfl ?_
        refine LR.v (Y.leq rfl rfl rfl) (Wd.g rfl rfl rfl) rfl rfl ?_
        refine LR.v (Y.pick_t rfl rfl rfl) (Wd.u rfl) rfl rfl ?_
        refine LR.v (Y.assign rfl rfl) (Wd.u rfl) rfl rfl ?_
        refine LR.nil ?_
        refine hK14 _ _ ?_
        refine CW.condp rfl (fun c10 => ?_) (fun c10 => ?_)
        ·
          refine CW.exit (hE13 (.exit 2) nofun _ _ (hE8 (.exit 2) nofun _ _ (hE7 (.exit 2) nofun (by simp) _ _ (hX6 _ _ ?_))))
          refine hK5 _ _ ?_
          refine hK4 _ _ ?_
          refine CW.seq (fun K15 hK15 hE15 => ?_)
          refine CW.seq (fun K16 hK16 hE16 => ?_)
          refine CW.region ?_
          refine LR.v (Y.assign rfl rfl) (Wd.u rfl) rfl rfl ?_
          refine LR.nil ?_
          refine hK16 _ _ ?_
          refine CW.ret (hE15 .ret nofun _ _ (hE3 .ret nofun (by simp) _ _ (hE2 .ret nofun _ _ (hret .ret (.inr rfl) _ _ _ (res1 rfl rfl) ?_))))
          exact ⟨by first | exact goodT (by omega) | (rw [goodB]; exact bdec (by rw [hix]; omega)), hm0⟩
        ·
          refine CW.skip ?_
          refine hK13 _ _ ?_
          refine CW.seq (fun K17 hK17 hE17 => ?_)
          refine CW.region ?_
          refine LR.v (Y.move rfl rfl) (Wd.u rfl) rfl rfl ?_
          refine LR.v (Y.geq rfl rfl rfl) (Wd.u rfl) rfl rfl ?_
          refine LR.v (Y.move rfl rfl) (Wd.u rfl) rfl rfl ?_
          refine LR.splitp (d := 20) rfl (fun g20 => ?_) (fun g20 => ?_)
          ·
            refine LR.v (Y.move rfl rfl) (Wd.g rfl rfl rfl) rfl rfl ?_
            refine LR.v (Y.leq rfl rfl rfl) (Wd.g rfl rfl rfl) rfl rfl ?_
            refine LR.v (Y.pick_t rfl rfl rfl) (Wd.u rfl) rfl rfl ?_
            refine LR.v (Y.assign rfl rfl) (Wd.u rfl) rfl rfl ?_
            refine LR.nil ?_
            refine hK17 _ _ ?_
            refine CW.condp rfl (fun c17 => ?_) (fun c17 => ?_)
            ·
              refine CW.exit (hE8 (.exit 3) nofun _ _ (hE7 (.exit 3) nofun (by simp) _ _ (hE6 (.exit 3) nofun (by simp) _ _ (hX5 _ _ ?_))))
              refine hK4 _ _ ?_
              refine CW.seq (fun K18 hK18 hE18 => ?_)
              refine CW.seq (fun K19 hK19 hE19 => ?_)
              refine CW.region ?_
              refine LR.v (Y.assign rfl rfl) (Wd.u rfl) rfl rfl ?_
              refine LR.nil ?_
              refine hK19 _ _ ?_
              refine CW.ret (hE18 .ret nofun _ _ (hE3 .ret nofun (by simp) _ _ (hE2 .ret nofun _ _ (hret .ret (.inr rfl) _ _ _ (res1 rfl rfl) ?_))))
              exact ⟨by first | exact goodT (by omega) | (rw [goodB]; exact bdec (by rw [hix]; omega)), hm0⟩
            ·
              refine CW.skip ?_
              refine hK8 _ _ ?_
              refine CW.exit (hE7 (.exit 0) nofun (by simp) _ _ (hE6 (.exit 0) nofun (by simp) _ _ (hE5 (.exit 0) nofun (by simp) _ _ (hE4 (.exit 0) nofun _ _ (hX3 _ _ ?_)))))
              refine hK2 _ _ ?_
              refine CW.seq (fun K20 hK20 hE20 => ?_)
              refine CW.region ?_
              refine LR.v (Y.move rfl rfl) (Wd.u rfl) rfl rfl ?_
              -- call strings.IndexByte
              refine LR.call rfl Tryd.call59 rfl (Wd.u rfl) rfl rfl (idx_ct [46, 95, 45, 47] c w0 _) (fun v25 H25 r25 => ?_)
              obtain ⟨rfl, hs25⟩ := r25
              replace hm0 := hm0.tr hs25
              have hz1 := hs25.size
              have hix := idx_sign c
              refine LR.v (Y.geq rfl rfl rfl) (Wd.u rfl) rfl rfl ?_
              refine LR.v (Y.assign rfl rfl) (Wd.u rfl) rfl rfl ?_
              refine LR.nil ?_
              refine hK20 _ _ ?_
              refine CW.ret (hret .ret (.inr rfl) _ _ _ (res1 rfl rfl) ?_)
              exact ⟨by first | exact goodT (by omega) | (rw [goodB]; exact bdec (by rw [hix]; omega)), hm0⟩
          ·
            refine LR.gs rfl rfl rfl rfl rfl rfl ?_
            refine LR.gs rfl rfl rfl rfl rfl rfl ?_
            refine LR.v (Y.pick_f rfl rfl rfl) (Wd.u rfl) rfl rfl ?_
            refine LR.v (Y.assign rfl rfl) (Wd.u rfl) rfl rfl ?_
            refine LR.nil ?_
            refine hK17 _ _ ?_
            refine CW.cond_f rfl ?_
            refine CW.skip ?_
            refine hK8 _ _ ?_
            refine CW.exit (hE7 (.exit 0) nofun (by simp) _ _ (hE6 (.exit 0) nofun (by simp) _ _ (hE5 (.exit 0) nofun (by simp) _ _ (hE4 (.exit 0) nofun _ _ (hX3 _ _ ?_)))))
            refine hK2 _ _ ?_
            refine CW.seq (fun K21 hK21 hE21 => ?_)
            refine CW.region ?_
            refine LR.v (Y.move rfl rfl) (Wd.u rfl) rfl rfl ?_
            -- call strings.IndexByte
            refine LR.call rfl Tryd.call59 rfl (Wd.u rfl) rfl rfl (idx_ct [46, 95, 45, 47] c w0 _) (fun v25 H25 r25 => ?_)
            obtain ⟨rfl, hs25⟩ := r25
            replace hm0 := hm0.tr hs25
            have hz2 := hs25.size
            have hix := idx_sign c
            refine LR.v (Y.geq rfl rfl rfl) (Wd.u rfl) rfl rfl ?_
            refine LR.v (Y.assign rfl rfl) (Wd.u rfl) rfl rfl ?_
            refine LR.nil ?_
            refine hK21 _ _ ?_
            refine CW.ret (hret .ret (.inr rfl) _ _ _ (res1 rfl rfl) ?_)
            exact ⟨by first | exact goodT (by omega) | (rw [goodB]; exact bdec (by rw [hix]; omega)), hm0⟩
      ·
        refine LR.gs rfl rfl rfl rfl rfl rfl ?_
        refine LR.gs rfl rfl rfl rfl rfl rfl ?_
        refine LR.v (Y.pick_f rfl rfl rfl) (Wd.u rfl) rfl rfl ?_
        refine LR.v (Y.assign rfl rfl) (Wd.u rfl) rfl rfl ?_
        refine LR.nil ?_
        refine hK14 _ _ ?_
        refine CW.cond_f rfl ?_
        refine CW.skip ?_
        refine hK13 _ _ ?_
        refine CW.seq (fun K22 hK22 hE22 => ?_)
        refine CW.region ?_
        refine LR.v (Y.move rfl rfl) (Wd.u rfl) rfl rfl ?_
        refine LR.v (Y.geq rfl rfl rfl) (Wd.u rfl) rfl rfl ?_
        refine LR.v (Y.move rfl rfl) (Wd.u rfl) rfl rfl ?_
        refine LR.splitp (d := 20) rfl (fun g20 => ?_) (fun g20 => ?_)
        ·
          refine LR.v (Y.move rfl rfl) (Wd.g rfl rfl rfl) rfl rfl ?_
          refine LR.v (Y.leq rfl rfl rfl) (Wd.g rfl rfl rfl) rfl rfl ?_
          refine LR.v (Y.pick_t rfl rfl rfl) (Wd.u rfl) rfl rfl ?_
          refine LR.v (Y.assign rfl rfl) (Wd.u rfl) rfl rfl ?_
          refine LR.nil ?_
          refine hK22 _ _ ?_
          refine CW.condp rfl (fun c17 => ?_) (fun c17 => ?_)
          ·
            refine CW.exit (hE8 (.exit 3) nofun _ _ (hE7 (.exit 3) nofun (by simp) _ _ (hE6 (.exit 3) nofun (by simp) _ _ (hX5 _ _ ?_))))
            refine hK4 _ _ ?_
            refine CW.seq (fun K23 hK23 hE23 => ?_)
            refine CW.seq (fun K24 hK24 hE24 => ?_)
            refine CW.region ?_
            refine LR.v (Y.assign rfl rfl) (Wd.u rfl) rfl rfl ?_
            refine LR.nil ?_
            refine hK24 _ _ ?_
            refine CW.ret (hE23 .ret nofun _ _ (hE3 .ret nofun (by simp) _ _ (hE2 .ret nofun _ _ (hret .ret (.inr rfl) _ _ _ (res1 rfl rfl) ?_))))
            exact ⟨by first | exact goodT (by omega) | (rw [goodB]; exact bdec (by rw [hix]; omega)), hm0⟩
          ·
            refine CW.skip ?_
            refine hK8 _ _ ?_
            refine CW.exit (hE7 (.exit 0) nofun (by simp) _ _ (hE6 (.exit 0) nofun (by simp) _ _ (hE5 (.exit 0) nofun (by simp) _ _ (hE4 (.exit 0) nofun _ _ (hX3 _ _ ?_)))))
            refine hK2 _ _ ?_
            refine CW.seq (fun K25 hK25 hE25 => ?_)
            refine CW.region ?_
            refine LR.v (Y.move rfl rfl) (Wd.u rfl) rfl rfl ?_
            -- call strings.IndexByte
            refine LR.call rfl Tryd.call59 rfl (Wd.u rfl) rfl rfl (idx_ct [46, 95, 45, 47] c w0 _) (fun v25 H25 r25 => ?_)
            obtain ⟨rfl, hs25⟩ := r25
            replace hm0 := hm0.tr hs25
            have hz3 := hs25.size
            have hix := idx_sign c
            refine LR.v (Y.geq rfl rfl rfl) (Wd.u rfl) rfl rfl ?_
            refine LR.v (Y.assign rfl rfl) (Wd.u rfl) rfl rfl ?_
            refine LR.nil ?_
            refine hK25 _ _ ?_
            refine CW.ret (hret .ret (.inr rfl) _ _ _ (res1 rfl rfl) ?_)
            exact ⟨by first | exact goodT (by omega) | (rw [goodB]; exact bdec (by rw [hix]; omega)), hm0⟩
        ·
          refine LR.gs rfl rfl rfl rfl rfl rfl ?_
          refine LR.gs rfl rfl rfl rfl rfl rfl ?_
          refine LR.v (Y.pick_f rfl rfl rfl) (Wd.u rfl) rfl rfl ?_
          refine LR.v (Y.assign rfl rfl) (Wd.u rfl) rfl rfl ?_
          refine LR.nil ?_
          refine hK22 _ _ ?_
          refine CW.cond_f rfl ?_
          refine CW.skip ?_
          refine hK8 _ _ ?_
          refine CW.exit (hE7 (.exit 0) nofun (by simp) _ _ (hE6 (.exit 0) nofun (by simp) _ _ (hE5 (.exit 0) nofun (by simp) _ _ (hE4 (.exit 0) nofun _ _ (hX3 _ _ ?_)))))
          refine hK2 _ _ ?_
          refine CW.seq (fun K26 hK26 hE26 => ?_)
          refine CW.region ?_
          refine LR.v (Y.move rfl rfl) (Wd.u rfl) rfl rfl ?_
          -- call strings.IndexByte
          refine LR.call rfl Tryd.call59 rfl (Wd.u rfl) rfl rfl (idx_ct [46, 95, 45, 47] c w0 _) (fun v25 H25 r25 => ?_)
          obtain ⟨rfl, hs25⟩ := r25
          replace hm0 := hm0.tr hs25
          have hz4 := hs25.size
          have hix := idx_sign c
          refine LR.v (Y.geq rfl rfl rfl) (Wd.u rfl) rfl rfl ?_
          refine LR.v (Y.assign rfl rfl) (Wd.u rfl) rfl rfl ?_
          refine LR.nil ?_
          refine hK26 _ _ ?_
          refine CW.ret (hret .ret (.inr rfl) _ _ _ (res1 rfl rfl) ?_)
          exact ⟨by first | exact goodT (by omega) | (rw [goodB]; exact bdec (by rw [hix]; omega)), hm0⟩
  ·
    refine LR.gs rfl rfl rfl rfl rfl rfl ?_
    refine LR.gs rfl rfl rfl rfl rfl rfl ?_
    refine LR.v (Y.pick_f rfl rfl rfl) (Wd.u rfl) rfl rfl ?_
    refine LR.v (Y.assign rfl rfl) (Wd.u rfl) rfl rfl ?_
    refine LR.nil ?_
    refine hK10 _ _ ?_
    refine CW.cond_f rfl ?_
    refine CW.skip ?_
    refine hK9 _ _ ?_
    refine CW.seq (fun K27 hK27 hE27 => ?_)
    refine CW.seq (fun K28 hK28 hE28 => ?_)
    refine CW.region ?_
    refine LR.v (Y.move rfl rfl) (Wd.u rfl) rfl rfl ?_
    refine LR.v (Y.geq rfl rfl rfl) (Wd.u rfl) rfl rfl ?_
    refine LR.v (Y.move rfl rfl) (Wd.u rfl) rfl rfl ?_
    refine LR.splitp (d := 13) rfl (fun g13 => ?_) (fun g13 => ?_)
    ·
      refine LR.v (Y.move rfl rfl) (Wd.g rfl rfl rfl) rfl rfl ?_
      refine LR.v (Y.leq rfl rfl rfl) (Wd.g rfl rfl rfl) rfl rfl ?_
      refine LR.v (Y.pick_t rfl rfl rfl) (Wd.u rfl) rfl rfl ?_
      refine LR.v (Y.assign rfl rfl) (Wd.u rfl) rfl rfl ?_
      refine LR.nil ?_
      refine hK28 _ _ ?_
      refine CW.condp rfl (fun c10 => ?_) (fun c10 => ?_)
      ·
        refine CW.exit (hE27 (.exit 2) nofun _ _ (hE8 (.exit 2) nofun _ _ (hE7 (.exit 2) nofun (by simp) _ _ (hX6 _ _ ?_))))
        refine hK5 _ _ ?_
        refine hK4 _ _ ?_
        refine CW.seq (fun K29 hK29 hE29 => ?_)
        refine CW.seq (fun K30 hK30 hE30 => ?_)
        refine CW.region ?_
        refine LR.v (Y.assign rfl rfl) (Wd.u rfl) rfl rfl ?_
        refine LR.nil ?_
        refine hK30 _ _ ?_
        refine CW.ret (hE29 .ret nofun _ _ (hE3 .ret nofun (by simp) _ _ (hE2 .ret nofun _ _ (hret .ret (.inr rfl) _ _ _ (res1 rfl rfl) ?_))))
        exact ⟨by first | exact goodT (by omega) | (rw [goodB]; exact bdec (by rw [hix]; omega)), hm0⟩
      ·
        refine CW.skip ?_
        refine hK27 _ _ ?_
        refine CW.seq (fun K31 hK31 hE31 => ?_)
        refine CW.region ?_
        refine LR.v (Y.move rfl rfl) (Wd.u rfl) rfl rfl ?_
        refine LR.v (Y.geq rfl rfl rfl) (Wd.u rfl) rfl rfl ?_
        refine LR.v (Y.move rfl rfl) (Wd.u rfl) rfl rfl ?_
        refine LR.splitp (d := 20) rfl (fun g20 => ?_) (fun g20 => ?_)
        ·
          refine LR.v (Y.move rfl rfl) (Wd.g rfl rfl rfl) rfl rfl ?_
          refine LR.v (Y.leq rfl rfl rfl) (Wd.g rfl rfl rfl) rfl rfl ?_
          refine LR.v (Y.pick_t rfl rfl rfl) (Wd.u rfl) rfl rfl ?_
          refine LR.v (Y.assign rfl rfl) (Wd.u rfl) rfl rfl ?_
          refine LR.nil ?_
          refine hK31 _ _ ?_
          refine CW.condp rfl (fun c17 => ?_) (fun c17 => ?_)
          ·
            refine CW.exit (hE8 (.exit 3) nofun _ _ (hE7 (.exit 3) nofun (by simp) _ _ (hE6 (.exit 3) nofun (by simp) _ _ (hX5 _ _ ?_))))
            refine hK4 _ _ ?_
            refine CW.seq (fun K32 hK32 hE32 => ?_)
            refine CW.seq (fun K33 hK33 hE33 => ?_)
            refine CW.region ?_
            refine LR.v (Y.assign rfl rfl) (Wd.u rfl) rfl rfl ?_
            refine LR.nil ?_
            refine hK33 _ _ ?_
            refine CW.ret (hE32 .ret nofun _ _ (hE3 .ret nofun (by simp) _ _ (hE2 .ret nofun _ _ (hret .ret (.inr rfl) _ _ _ (res1 rfl rfl) ?_))))
            exact ⟨by first | exact goodT (by omega) | (rw [goodB]; exact bdec (by rw [hix]; omega)), hm0⟩
          ·
            refine CW.skip ?_
            refine hK8 _ _ ?_
            refine CW.exit (hE7 (.exit 0) nofun (by simp) _ _ (hE6 (.exit 0) nofun (by simp) _ _ (hE5 (.exit 0) nofun (by simp) _ _ (hE4 (.exit 0) nofun _ _ (hX3 _ _ ?_)))))
            refine hK2 _ _ ?_
            refine CW.seq (fun K34 hK34 hE34 => ?_)
            refine CW.region ?_
            refine LR.v (Y.move rfl rfl) (Wd.u rfl) rfl rfl ?_
            -- call strings.IndexByte
            refine LR.call rfl Tryd.call59 rfl (Wd.u rfl) rfl rfl (idx_ct [46, 95, 45, 47] c w0 _) (fun v25 H25 r25 => ?_)
            obtain ⟨rfl, hs25⟩ := r25
            replace hm0 := hm0.tr hs25
            have hz5 := hs25.size
            have hix := idx_sign c
            refine LR.v (Y.geq rfl rfl rfl) (Wd.u rfl) rfl rfl ?_
            refine LR.v (Y.assign rfl rfl) (Wd.u rfl) rfl rfl ?_
            refine LR.nil ?_
            refine hK34 _ _ ?_
            refine CW.ret (hret .ret (.inr rfl) _ _ _ (res1 rfl rfl) ?_)
            exact ⟨by first | exact goodT (by omega) | (rw [goodB]; exact bdec (by rw [hix]; omega)), hm0⟩
        ·
          refine LR.gs rfl rfl rfl rfl rfl rfl ?_
          refine LR.gs rfl rfl rfl rfl rfl rfl ?_
          refine LR.v (Y.pick_f rfl rfl rfl) (Wd.u rfl) rfl rfl ?_
          refine LR.v (Y.assign rfl rfl) (Wd.u rfl) rfl rfl ?_
          refine LR.nil ?_
          refine hK31 _ _ ?_
          refine CW.cond_f rfl ?_
          refine CW.skip ?_
          refine hK8 _ _ ?_
          refine CW.exit (hE7 (.exit 0) nofun (by simp) _ _ (hE6 (.exit 0) nofun (by simp) _ _ (hE5 (.exit 0) nofun (by simp) _ _ (hE4 (.exit 0) nofun _ _ (hX3 _ _ ?_)))))
          refine hK2 _ _ ?_
          refine CW.seq (fun K35 hK35 hE35 => ?_)
          refine CW.region ?_
          refine LR.v (Y.move rfl rfl) (Wd.u rfl) rfl rfl ?_
          -- call strings.IndexByte
          refine LR.call rfl Tryd.call59 rfl (Wd.u rfl) rfl rfl (idx_ct [46, 95, 45, 47] c w0 _) (fun v25 H25 r25 => ?_)
          obtain ⟨rfl, hs25⟩ := r25
          replace hm0 := hm0.tr hs25
          have hz6 := hs25.size
          have hix := idx_sign c
          refine LR.v (Y.geq rfl rfl rfl) (Wd.u rfl) rfl rfl ?_
          refine LR.v (Y.assign rfl rfl) (Wd.u rfl) rfl rfl ?_
          refine LR.nil ?_
          refine hK35 _ _ ?_
          refine CW.ret (hret .ret (.inr rfl) _ _ _ (res1 rfl rfl) ?_)
          exact ⟨by first | exact goodT (by omega) | (rw [goodB]; exact bdec (by rw [hix]; omega)), hm0⟩
    ·
      refine LR.gs rfl rfl rfl rfl rfl rfl ?_
      refine LR.gs rfl rfl rfl rfl rfl rfl ?_
      refine LR.v (Y.pick_f rfl rfl rfl) (Wd.u rfl) rfl rfl ?_
      refine LR.v (Y.assign rfl rfl) (Wd.u rfl) rfl rfl ?_
      refine LR.nil ?_
      refine hK28 _ _ ?_
      refine CW.cond_f rfl ?_
      refine CW.skip ?_
      refine hK27 _ _ ?_
      refine CW.seq (fun K36 hK36 hE36 => ?_)
      refine CW.region ?_
      refine LR.v (Y.move rfl rfl) (Wd.u rfl) rfl rfl ?_
      refine LR.v (Y.geq rfl rfl rfl) (Wd.u rfl) rfl rfl ?_
      refine LR.v (Y.move rfl rfl) (Wd.u rfl) rfl rfl ?_
      refine LR.splitp (d := 20) rfl (fun g20 => ?_) (fun g20 => ?_)
      ·
        refine LR.v (Y.move rfl rfl) (Wd.g rfl rfl rfl) rfl rfl ?_
        refine LR.v (Y.leq rfl rfl rfl) (Wd.g rfl rfl rfl) rfl rfl ?_
        refine LR.v (Y.pick_t rfl rfl rfl) (Wd.u rfl) rfl rfl ?_
        refine LR.v (Y.assign rfl rfl) (Wd.u rfl) rfl rfl ?_
        refine LR.nil ?_
        refine hK36 _ _ ?_
        refine CW.condp rfl (fun c17 => ?_) (fun c17 => ?_)
        ·
          refine CW.exit (hE8 (.exit 3) nofun _ _ (hE7 (.exit 3) nofun (by simp) _ _ (hE6 (.exit 3) nofun (by simp) _ _ (hX5 _ _ ?_))))
          refine hK4 _ _ ?_
          refine CW.seq (fun K37 hK37 hE37 => ?_)
          refine CW.seq (fun K38 hK38 hE38 => ?_)
          refine CW.region ?_
          refine LR.v (Y.assign rfl rfl) (Wd.u rfl) rfl rfl ?_
          refine LR.nil ?_
          refine hK38 _ _ ?_
          refine CW.ret (hE37 .ret nofun _ _ (hE3 .ret nofun (by simp) _ _ (hE2 .ret nofun _ _ (hret .ret (.inr rfl) _ _ _ (res1 rfl rfl) ?_))))
          exact ⟨by first | exact goodT (by omega) | (rw [goodB]; exact bdec (by rw [hix]; omega)), hm0⟩
        ·
          refine CW.skip ?_
          refine hK8 _ _ ?_
          refine CW.exit (hE7 (.exit 0) nofun (by simp) _ _ (hE6 (.exit 0) nofun (by simp) _ _ (hE5 (.exit 0) nofun (by simp) _ _ (hE4 (.exit 0) nofun _ _ (hX3 _ _ ?_)))))
          refine hK2 _ _ ?_
          refine CW.seq (fun K39 hK39 hE39 => ?_)
          refine CW.region ?_
          refine LR.v (Y.move rfl rfl) (Wd.u rfl) rfl rfl ?_
          -- call strings.IndexByte
          refine LR.call rfl Tryd.call59 rfl (Wd.u rfl) rfl rfl (idx_ct [46, 95, 45, 47] c w0 _) (fun v25 H25 r25 => ?_)
          obtain ⟨rfl, hs25⟩ := r25
          replace hm0 := hm0.tr hs25
          have hz7 := hs25.size
          have hix := idx_sign c
          refine LR.v (Y.geq rfl rfl rfl) (Wd.u rfl) rfl rfl ?_
          refine LR.v (Y.assign rfl rfl) (Wd.u rfl) rfl rfl ?_
          refine LR.nil ?_
          refine hK39 _ _ ?_
          refine CW.ret (hret .ret (.inr rfl) _ _ _ (res1 rfl rfl) ?_)
          exact ⟨by first | exact goodT (by omega) | (rw [goodB]; exact bdec (by rw [hix]; omega)), hm0⟩
      ·
        refine LR.gs rfl rfl rfl rfl rfl rfl ?_
        refine LR.gs rfl rfl rfl rfl rfl rfl ?_
        refine LR.v (Y.pick_f rfl rfl rfl) (Wd.u rfl) rfl rfl ?_
        refine LR.v (Y.assign rfl rfl) (Wd.u rfl) rfl rfl ?_
        refine LR.nil ?_
        refine hK36 _ _ ?_
        refine CW.cond_f rfl ?_
        refine CW.skip ?_
        refine hK8 _ _ ?_
        refine CW.exit (hE7 (.exit 0) nofun (by simp) _ _ (hE6 (.exit 0) nofun (by simp) _ _ (hE5 (.exit 0) nofun (by simp) _ _ (hE4 (.exit 0) nofun _ _ (hX3 _ _ ?_)))))
        refine hK2 _ _ ?_
        refine CW.seq (fun K40 hK40 hE40 => ?_)
        refine CW.region ?_
        refine LR.v (Y.move rfl rfl) (Wd.u rfl) rfl rfl ?_
        -- call strings.IndexByte
        refine LR.call rfl Tryd.call59 rfl (Wd.u rfl) rfl rfl (idx_ct [46, 95, 45, 47] c w0 _) (fun v25 H25 r25 => ?_)
        obtain ⟨rfl, hs25⟩ := r25
        replace hm0 := hm0.tr hs25
        have hz8 := hs25.size
        have hix := idx_sign c
        refine LR.v (Y.geq rfl rfl rfl) (Wd.u rfl) rfl rfl ?_
        refine LR.v (Y.assign rfl rfl) (Wd.u rfl) rfl rfl ?_
        refine LR.nil ?_
        refine hK40 _ _ ?_
        refine CW.ret (hret .ret (.inr rfl) _ _ _ (res1 rfl rfl) ?_)
        exact ⟨by first | exact goodT (by omega) | (rw [goodB]; exact bdec (by rw [hix]; omega)), hm0⟩

theorem chk1_ct (c : UInt8) (w0 : World) (H0 : Heap)
     :
    Ct Tryd.prog w0 36 #[.int .u8 c.toNat] H0 (fun r H2 => r = .bool (!goodB c) ∧ Nw H0 H2) := by
  refine Ct.enter (args := [.int .u8 c.toNat]) Tryd.func36 rfl rfl rfl ?_
  intro Q0 hret
  have hm0 : Nw H0 H0 := Mo.refl _ _
  refine CW.seq (fun K1 hK1 hE1 => ?_)
  refine CW.region ?_
  refine LR.v (Y.assign rfl rfl) (Wd.u rfl) rfl rfl ?_
  refine LR.nil ?_
  refine hK1 _ _ ?_
  refine CW.seq (fun K2 hK2 hE2 => ?_)
  refine CW.region ?_
  refine LR.v (Y.move rfl rfl) (Wd.u rfl) rfl rfl ?_
  -- call selvage/name.sign
  refine LR.call rfl Tryd.call37 rfl (Wd.u rfl) rfl rfl (sign_ct c w0 _) (fun v4 H4 r4 => ?_)
  obtain ⟨rfl, hs4⟩ := r4
  replace hm0 := hm0.tr hs4
  have hz1 := hs4.size
  refine LR.v (Y.not rfl rfl) (Wd.u rfl) rfl rfl ?_
  refine LR.v (Y.assign rfl rfl) (Wd.u rfl) rfl rfl ?_
  refine LR.nil ?_
  refine hK2 _ _ ?_
  refine CW.ret (hret .ret (.inr rfl) _ _ _ (res1 rfl rfl) ?_)
  exact ⟨rfl, hm0⟩

theorem indexB_ct (v vf : Value) (l : List UInt8) (p : UInt8 → Bool) (w0 : World) (H0 : Heap)
    (hl : RdT H0 fB 1 v l) (hf : ∀ (x : UInt8) (H' : Heap), Nw H0 H' → x ∈ l → Clo Tryd.prog w0 vf [.int .u8 x.toNat] H' (fun r H2 => r = .bool (p x) ∧ Nw H' H2)) :
    Ct Tryd.prog w0 58 #[v, vf] H0 (fun r H2 => ∃ n : Int, r = .int .i64 n ∧ ((0 ≤ n ↔ l.any p = true) ∧ -1 ≤ n ∧ n ≤ 9223372036854775807) ∧ Nw H0 H2) := by
  refine Ct.enter (args := [v, vf]) Tryd.func58 rfl rfl rfl ?_
  intro Q0 hret
  have hm0 : Nw H0 H0 := Mo.refl _ _
  replace hl := hl.bnd
  have bf_hl := Rd.bf hl
  have hll := hl.len
  refine CW.seq (fun K1 hK1 hE1 => ?_)
  refine CW.region ?_
  refine LR.v (Y.assign rfl rfl) (Wd.u rfl) rfl rfl ?_
  refine LR.nil ?_
  refine hK1 _ _ ?_
  refine CW.seq (fun K2 hK2 hE2 => ?_)
  refine CW.seq (fun K3 hK3 hE3 => ?_)
  refine CW.region ?_
  refine LR.v (Y.move rfl rfl) (Wd.u rfl) rfl rfl ?_
  refine LR.v (Y.len hl rfl Tryd.runUnderlying57 rfl) (Wd.u rfl) rfl rfl ?_
  refine LR.v (Y.move rfl rfl) (Wd.u rfl) rfl rfl ?_
  refine LR.nil ?_
  refine hK3 _ _ ?_
  refine CW.block (fun K4 hK4 hX4 hE4 => ?_)
  refine CW.loop (fun (j : (Nat)) => [(0, v), (1, vf), (7, .int .i64 l.length), (8, .int .i64 j)])
    (fun (j : (Nat)) (H : Heap) => (j ≤ l.length) ∧ ((l.take j).any p = false) ∧ Nw H0 H)
    (fun (j : (Nat)) => l.length - j) 0 ⟨rfl, rfl, rfl, rfl, trivial⟩ ?_ ?_
  ·
    exact ⟨(by omega), rfl, Mo.refl _ _⟩
  intro j HL1 hI1 K5 hN5 hE5
  obtain ⟨hj, ha, hlm1⟩ := hI1
  replace hl := hl.nw hlm1
  replace hm0 := hm0.tr hlm1
  have hz1 := hlm1.size
  refine CW.seq (fun K6 hK6 hE6 => ?_)
  refine CW.region ?_
  refine LR.v (Y.lss rfl rfl rfl) (Wd.u rfl) rfl rfl ?_
  refine LR.nil ?_
  refine hK6 _ _ ?_
  refine CW.seq (fun K7 hK7 hE7 => ?_)
  refine CW.condp rfl (fun c9 => ?_) (fun c9 => ?_)
  ·
    refine CW.skip ?_
    refine hK7 _ _ ?_
    refine CW.seq (fun K8 hK8 hE8 => ?_)
    refine CW.block (fun K9 hK9 hX9 hE9 => ?_)
    refine CW.seq (fun K10 hK10 hE10 => ?_)
    refine CW.region ?_
    refine LR.v (Y.move rfl rfl) (Wd.u rfl) rfl rfl ?_
    refine LR.v (Y.assign rfl rfl) (Wd.u rfl) rfl rfl ?_
    refine LR.nil ?_
    refine hK10 _ _ ?_
    refine CW.seq (fun K11 hK11 hE11 => ?_)
    refine CW.region ?_
    refine LR.v (Y.move rfl rfl) (Wd.u rfl) rfl rfl ?_
    refine LR.v (Y.move rfl rfl) (Wd.u rfl) rfl rfl ?_
    refine LR.v (Y.move rfl rfl) (Wd.u rfl) rfl rfl ?_
    refine LR.e (g := fun ad => .pointer (some ad)) (Y.indexAddrF hl (j) rfl Tryd.runUnderlying57 Tryd.sizeOf5 rfl rfl (by first | rfl | omega) (by first | omega | (simp; omega) | (simp; done))) (Wd.u rfl) rfl rfl (fun ad14 pt14 => ?_)
    have bf_pt14 := bf_hl
    refine LR.v (Y.load1 pt14.pt rfl Tryd.isAgg5 rfl) (Wd.u rfl) rfl rfl ?_
    refine LR.calld rfl rfl rfl (Wd.u rfl) rfl rfl (hf l[j] _ hm0 (List.getElem_mem (by omega))) (fun v16 H16 r16 => ?_)
    obtain ⟨rfl, hs16⟩ := r16
    replace hl := hl.nw hs16
    replace pt14 := pt14.nw hs16
    replace hm0 := hm0.tr hs16
    replace hlm1 := hlm1.tr hs16
    have hz2 := hs16.size
    refine LR.nil ?_
    refine hK11 _ _ ?_
    refine CW.cond rfl (fun c16 => ?_) (fun c16 => ?_)
    ·
      refine CW.seq (fun K12 hK12 hE12 => ?_)
      refine CW.region ?_
      refine LR.v (Y.move rfl rfl) (Wd.u rfl) rfl rfl ?_
      refine LR.v (Y.assign rfl rfl) (Wd.u rfl) rfl rfl ?_
      refine LR.nil ?_
      refine hK12 _ _ ?_
      refine CW.ret (hE9 .ret nofun (by simp) _ _ (hE8 .ret nofun _ _ (hE5 .ret nofun _ _ (hE4 .ret nofun (by simp) _ _ (hE2 .ret nofun _ _ (hret .ret (.inr rfl) _ _ _ (res1 rfl rfl) ?_))))))
      exact ⟨j, rfl, ⟨⟨fun _ => any_at (j := j) (by omega) (by simpa using c16), fun _ => by omega⟩, by omega, by omega⟩, hm0⟩
    ·
      refine CW.skip ?_
      refine hK9 _ _ ?_
      refine hK8 _ _ ?_
      refine CW.region ?_
      refine LR.v (Y.addi rfl rfl rfl (by omega)) (Wd.u rfl) rfl rfl ?_
      refine LR.v (Y.move rfl rfl) (Wd.u rfl) rfl rfl ?_
      refine LR.nil ?_
      refine QN.sub (hN5 (j + 1) _ ?_ ?_) ⟨rfl, rfl, (iv (by omega)), (iv (by omega)), trivial⟩
      · exact ⟨(by omega), any_take ha (by omega) (by simpa using c16), hlm1⟩
      · first | omega | (simp only; omega) | (simp; omega)
  ·
    refine CW.exit (hE7 (.exit 0) nofun _ _ (hE5 (.exit 0) nofun _ _ (hX4 _ _ ?_)))
    refine hK2 _ _ ?_
    refine CW.seq (fun K13 hK13 hE13 => ?_)
    refine CW.region ?_
    refine LR.v (Y.assign rfl rfl) (Wd.u rfl) rfl rfl ?_
    refine LR.nil ?_
    refine hK13 _ _ ?_
    refine CW.ret (hret .ret (.inr rfl) _ _ _ (res1 rfl rfl) ?_)
    exact ⟨-1, rfl, ⟨⟨fun h => by omega, fun h => by rw [List.take_of_length_le (by omega), h] at ha; cases ha⟩, by omega, by omega⟩, hm0⟩

theorem containsB_ct (v vf : Value) (l : List UInt8) (p : UInt8 → Bool) (w0 : World) (H0 : Heap)
    (hl : RdT H0 fB 1 v l) (hf : ∀ (x : UInt8) (H' : Heap), Nw H0 H' → x ∈ l → Clo Tryd.prog w0 vf [.int .u8 x.toNat] H' (fun r H2 => r = .bool (p x) ∧ Nw H' H2)) :
    Ct Tryd.prog w0 35 #[v, vf] H0 (fun r H2 => r = .bool (l.any p) ∧ Nw H0 H2) := by
  refine Ct.enter (args := [v, vf]) Tryd.func35 rfl rfl rfl ?_
  intro Q0 hret
  have hm0 : Nw H0 H0 := Mo.refl _ _
  replace hl := hl.bnd
  have bf_hl := Rd.bf hl
  have hll := hl.len
  refine CW.seq (fun K1 hK1 hE1 => ?_)
  refine CW.region ?_
  refine LR.v (Y.assign rfl rfl) (Wd.u rfl) rfl rfl ?_
  refine LR.nil ?_
  refine hK1 _ _ ?_
  refine CW.seq (fun K2 hK2 hE2 => ?_)
  refine CW.region ?_
  refine LR.v (Y.move rfl rfl) (Wd.u rfl) rfl rfl ?_
  refine LR.v (Y.move rfl rfl) (Wd.u rfl) rfl rfl ?_
  -- call slices.IndexFunc[[]byte,byte]
  refine LR.call rfl Tryd.call58 rfl (Wd.u rfl) rfl rfl (indexB_ct _ vf l p w0 _ hl.any hf) (fun v7 H7 r7 => ?_)
  obtain ⟨n7, rfl, hn7, hs7⟩ := r7
  replace hl := hl.nw hs7
  replace hm0 := hm0.tr hs7
  have hz1 := hs7.size
  refine LR.v (Y.geq rfl rfl rfl) (Wd.u rfl) rfl rfl ?_
  refine LR.v (Y.assign rfl rfl) (Wd.u rfl) rfl rfl ?_
  refine LR.nil ?_
  refine hK2 _ _ ?_
  refine CW.ret (hret .ret (.inr rfl) _ _ _ (res1 rfl rfl) ?_)
  exact ⟨by cases hp : l.any p with | true => (rw [decide_eq_true (hn7.1.2 hp)]) | false => (rw [decide_eq_false (fun h => by rw [hn7.1.1 h] at hp; cases hp)]), hm0⟩

theorem indexS_ct (v vf : Value) (l : List (List UInt8)) (p : List UInt8 → Bool) (w0 : World) (H0 : Heap)
    (hl : RdT H0 fS 1 v l) (hf : ∀ (x : List UInt8) (H' : Heap), Nw H0 H' → x ∈ l → Clo Tryd.prog w0 vf [Str x] H' (fun r H2 => r = .bool (p x) ∧ Nw H' H2)) :
    Ct Tryd.prog w0 60 #[v, vf] H0 (fun r H2 => ∃ n : Int, r = .int .i64 n ∧ ((0 ≤ n ↔ l.any p = true) ∧ -1 ≤ n ∧ n ≤ 9223372036854775807) ∧ Nw H0 H2) := by
  refine Ct.enter (args := [v, vf]) Tryd.func60 rfl rfl rfl ?_
  intro Q0 hret
  have hm0 : Nw H0 H0 := Mo.refl _ _
  replace hl := hl.bnd
  have bf_hl := Rd.bf hl
  have hll := hl.len
  refine CW.seq (fun K1 hK1 hE1 => ?_)
  refine CW.region ?_
  refine LR.v (Y.assign rfl rfl) (Wd.u rfl) rfl rfl ?_
  refine LR.nil ?_
  refine hK1 _ _ ?_
  refine CW.seq (fun K2 hK2 hE2 => ?_)
  refine CW.seq (fun K3 hK3 hE3 => ?_)
  refine CW.region ?_
  refine LR.v (Y.move rfl rfl) (Wd.u rfl) rfl rfl ?_
  refine LR.v (Y.len hl rfl Tryd.runUnderlying66 rfl) (Wd.u rfl) rfl rfl ?_
  refine LR.v (Y.move rfl rfl) (Wd.u rfl) rfl rfl ?_
  refine LR.nil ?_
  refine hK3 _ _ ?_
  refine CW.block (fun K4 hK4 hX4 hE4 => ?_)
  refine CW.loop (fun (j : (Nat)) => [(0, v), (1, vf), (7, .int .i64 l.length), (8, .int .i64 j)])
    (fun (j : (Nat)) (H : Heap) => (j ≤ l.length) ∧ ((l.take j).any p = false) ∧ Nw H0 H)
    (fun (j : (Nat)) => l.length - j) 0 ⟨rfl, rfl, rfl, rfl, trivial⟩ ?_ ?_
  ·
    exact ⟨(by omega), rfl, Mo.refl _ _⟩
  intro j HL1 hI1 K5 hN5 hE5
  obtain ⟨hj, ha, hlm1⟩ := hI1
  replace hl := hl.nw hlm1
  replace hm0 := hm0.tr hlm1
  have hz1 := hlm1.size
  refine CW.seq (fun K6 hK6 hE6 => ?_)
  refine CW.region ?_
  refine LR.v (Y.lss rfl rfl rfl) (Wd.u rfl) rfl rfl ?_
  refine LR.nil ?_
  refine hK6 _ _ ?_
  refine CW.seq (fun K7 hK7 hE7 => ?_)
  refine CW.condp rfl (fun c9 => ?_) (fun c9 => ?_)
  ·
    refine CW.skip ?_
    refine hK7 _ _ ?_
    refine CW.seq (fun K8 hK8 hE8 => ?_)
    refine CW.block (fun K9 hK9 hX9 hE9 => ?_)
    refine CW.seq (fun K10 hK10 hE10 => ?_)
    refine CW.region ?_
    refine LR.v (Y.move rfl rfl) (Wd.u rfl) rfl rfl ?_
    refine LR.v (Y.assign rfl rfl) (Wd.u rfl) rfl rfl ?_
    refine LR.nil ?_
    refine hK10 _ _ ?_
    refine CW.seq (fun K11 hK11 hE11 => ?_)
    refine CW.region ?_
    refine LR.v (Y.move rfl rfl) (Wd.u rfl) rfl rfl ?_
    refine LR.v (Y.move rfl rfl) (Wd.u rfl) rfl rfl ?_
    refine LR.v (Y.move rfl rfl) (Wd.u rfl) rfl rfl ?_
    refine LR.e (g := fun ad => .pointer (some ad)) (Y.indexAddrF hl (j) rfl Tryd.runUnderlying66 Tryd.sizeOf9 rfl rfl (by first | rfl | omega) (by first | omega | (simp; omega) | (simp; done))) (Wd.u rfl) rfl rfl (fun ad14 pt14 => ?_)
    have bf_pt14 := bf_hl
    refine LR.v (Y.load1 pt14.pt rfl Tryd.isAgg9 rfl) (Wd.u rfl) rfl rfl ?_
    refine LR.calld rfl rfl rfl (Wd.u rfl) rfl rfl (hf l[j] _ hm0 (List.getElem_mem (by omega))) (fun v16 H16 r16 => ?_)
    obtain ⟨rfl, hs16⟩ := r16
    replace hl := hl.nw hs16
    replace pt14 := pt14.nw hs16
    replace hm0 := hm0.tr hs16
    replace hlm1 := hlm1.tr hs16
    have hz2 := hs16.size
    refine LR.nil ?_
    refine hK11 _ _ ?_
    refine CW.cond rfl (fun c16 => ?_) (fun c16 => ?_)
    ·
      refine CW.seq (fun K12 hK12 hE12 => ?_)
      refine CW.region ?_
      refine LR.v (Y.move rfl rfl) (Wd.u rfl) rfl rfl ?_
      refine LR.v (Y.assign rfl rfl) (Wd.u rfl) rfl rfl ?_
      refine LR.nil ?_
      refine hK12 _ _ ?_
      refine CW.ret (hE9 .ret nofun (by simp) _ _ (hE8 .ret nofun _ _ (hE5 .ret nofun _ _ (hE4 .ret nofun (by simp) _ _ (hE2 .ret nofun _ _ (hret .ret (.inr rfl) _ _ _ (res1 rfl rfl) ?_))))))
      exact ⟨j, rfl, ⟨⟨fun _ => any_at (j := j) (by omega) (by simpa using c16), fun _ => by omega⟩, by omega, by omega⟩, hm0⟩
    ·
      refine CW.skip ?_
      refine hK9 _ _ ?_
      refine hK8 _ _ ?_
      refine CW.region ?_
      refine LR.v (Y.addi rfl rfl rfl (by omega)) (Wd.u rfl) rfl rfl ?_
      refine LR.v (Y.move rfl rfl) (Wd.u rfl) rfl rfl ?_
      refine LR.nil ?_
      refine QN.sub (hN5 (j + 1) _ ?_ ?_) ⟨rfl, rfl, (iv (by omega)), (iv (by omega)), trivial⟩
      · exact ⟨(by omega), any_take ha (by omega) (by simpa using c16), hlm1⟩
      · first | omega | (simp only; omega) | (simp; omega)
  ·
    refine CW.exit (hE7 (.exit 0) nofun _ _ (hE5 (.exit 0) nofun _ _ (hX4 _ _ ?_)))
    refine hK2 _ _ ?_
    refine CW.seq (fun K13 hK13 hE13 => ?_)
    refine CW.region ?_
    refine LR.v (Y.assign rfl rfl) (Wd.u rfl) rfl rfl ?_
    refine LR.nil ?_
    refine hK13 _ _ ?_
    refine CW.ret (hret .ret (.inr rfl) _ _ _ (res1 rfl rfl) ?_)
    exact ⟨-1, rfl, ⟨⟨fun h => by omega, fun h => by rw [List.take_of_length_le (by omega), h] at ha; cases ha⟩, by omega, by omega⟩, hm0⟩

theorem containsS_ct (v vf : Value) (l : List (List UInt8)) (p : List UInt8 → Bool) (w0 : World) (H0 : Heap)
    (hl : RdT H0 fS 1 v l) (hf : ∀ (x : List UInt8) (H' : Heap), Nw H0 H' → x ∈ l → Clo Tryd.prog w0 vf [Str x] H' (fun r H2 => r = .bool (p x) ∧ Nw H' H2)) :
    Ct Tryd.prog w0 38 #[v, vf] H0 (fun r H2 => r = .bool (l.any p) ∧ Nw H0 H2) := by
  refine Ct.enter (args := [v, vf]) Tryd.func38 rfl rfl rfl ?_
  intro Q0 hret
  have hm0 : Nw H0 H0 := Mo.refl _ _
  replace hl := hl.bnd
  have bf_hl := Rd.bf hl
  have hll := hl.len
  refine CW.seq (fun K1 hK1 hE1 => ?_)
  refine CW.region ?_
  refine LR.v (Y.assign rfl rfl) (Wd.u rfl) rfl rfl ?_
  refine LR.nil ?_
  refine hK1 _ _ ?_
  refine CW.seq (fun K2 hK2 hE2 => ?_)
  refine CW.region ?_
  refine LR.v (Y.move rfl rfl) (Wd.u rfl) rfl rfl ?_
  refine LR.v (Y.move rfl rfl) (Wd.u rfl) rfl rfl ?_
  -- call slices.IndexFunc[[]string,string]
  refine LR.call rfl Tryd.call60 rfl (Wd.u rfl) rfl rfl (indexS_ct _ vf l p w0 _ hl.any hf) (fun v7 H7 r7 => ?_)
  obtain ⟨n7, rfl, hn7, hs7⟩ := r7
  replace hl := hl.nw hs7
  replace hm0 := hm0.tr hs7
  have hz1 := hs7.size
  refine LR.v (Y.geq rfl rfl rfl) (Wd.u rfl) rfl rfl ?_
  refine LR.v (Y.assign rfl rfl) (Wd.u rfl) rfl rfl ?_
  refine LR.nil ?_
  refine hK2 _ _ ?_
  refine CW.ret (hret .ret (.inr rfl) _ _ _ (res1 rfl rfl) ?_)
  exact ⟨by cases hp : l.any p with | true => (rw [decide_eq_true (hn7.1.2 hp)]) | false => (rw [decide_eq_false (fun h => by rw [hn7.1.1 h] at hp; cases hp)]), hm0⟩

theorem part_ct (s : List UInt8) (mx_ : Int) (w0 : World) (H0 : Heap)
    (mx : MX mx_ H0) (bf_mx : BF (fun b => b = 0) H0.size) (hs : s.length ≤ 1000) :
    Ct Tryd.prog w0 41 #[Str s] H0 (fun r H2 => r = .bool (partB s) ∧ Nw H0 H2) := by
  refine Ct.enter (args := [Str s]) Tryd.func41 rfl rfl rfl ?_
  intro Q0 hret
  have hm0 : Nw H0 H0 := Mo.refl _ _
  refine CW.seq (fun K1 hK1 hE1 => ?_)
  refine CW.region ?_
  refine LR.v (Y.assign rfl rfl) (Wd.u rfl) rfl rfl ?_
  refine LR.nil ?_
  refine hK1 _ _ ?_
  refine CW.seq (fun K2 hK2 hE2 => ?_)
  refine CW.region ?_
  refine LR.v (Y.move rfl rfl) (Wd.u rfl) rfl rfl ?_
  refine LR.v (Y.sneq rfl rfl rfl) (Wd.u rfl) rfl rfl ?_
  refine LR.v (Y.move rfl rfl) (Wd.u rfl) rfl rfl ?_
  refine LR.splitp (d := 5) rfl (fun g5 => ?_) (fun g5 => ?_)
  ·
    have h0 : 0 < s.length := List.length_pos_iff.2 g5
    have e0 := getD_at (l := s) (i := 0) h0
    have e1 := getD_at (l := s) (i := s.length - 1) (by omega)
    refine LR.v (Y.move rfl rfl) (Wd.g rfl rfl rfl) rfl rfl ?_
    refine LR.v (Y.sindex (0) rfl Tryd.runUnderlying9 rfl rfl (by first | rfl | omega) (by omega)) (Wd.g rfl rfl rfl) rfl rfl ?_
    refine LR.v (Y.neq rfl rfl rfl) (Wd.g rfl rfl rfl) rfl rfl ?_
    refine LR.v (Y.pick_t rfl rfl rfl) (Wd.u rfl) rfl rfl ?_
    refine LR.v (Y.move rfl rfl) (Wd.u rfl) rfl rfl ?_
    refine LR.splitp (d := 10) rfl (fun g10 => ?_) (fun g10 => ?_)
    ·
      refine LR.v (Y.move rfl rfl) (Wd.g rfl rfl rfl) rfl rfl ?_
      refine LR.v (Y.sindex (0) rfl Tryd.runUnderlying9 rfl rfl (by first | rfl | omega) (by omega)) (Wd.g rfl rfl rfl) rfl rfl ?_
      refine LR.v (Y.neq rfl rfl rfl) (Wd.g rfl rfl rfl) rfl rfl ?_
      refine LR.v (Y.pick_t rfl rfl rfl) (Wd.u rfl) rfl rfl ?_
      refine LR.v (Y.move rfl rfl) (Wd.u rfl) rfl rfl ?_
      refine LR.splitp (d := 15) rfl (fun g15 => ?_) (fun g15 => ?_)
      ·
        refine LR.v (Y.move rfl rfl) (Wd.g rfl rfl rfl) rfl rfl ?_
        refine LR.v (Y.move rfl rfl) (Wd.g rfl rfl rfl) rfl rfl ?_
        refine LR.v (Y.slen rfl Tryd.runUnderlying9 rfl) (Wd.g rfl rfl rfl) rfl rfl ?_
        refine LR.v (Y.cast (v2 := .int .i64 ((s.length - 1 : Nat) : Int)) (Y.subi rfl rfl rfl (by omega)) (ivv (by omega))) (Wd.g rfl rfl rfl) rfl rfl ?_
        refine LR.v (Y.sindex (s.length - 1) rfl Tryd.runUnderlying9 rfl rfl (by first | rfl | omega) (by omega)) (Wd.g rfl rfl rfl) rfl rfl ?_
        refine LR.v (Y.neq rfl rfl rfl) (Wd.g rfl rfl rfl) rfl rfl ?_
        refine LR.v (Y.pick_t rfl rfl rfl) (Wd.u rfl) rfl rfl ?_
        refine LR.v (Y.move rfl rfl) (Wd.u rfl) rfl rfl ?_
        refine LR.splitp (d := 23) rfl (fun g23 => ?_) (fun g23 => ?_)
        ·
          refine LR.v (Y.move rfl rfl) (Wd.g rfl rfl rfl) rfl rfl ?_
          -- call strings.Contains
          refine LR.call rfl Tryd.call62 rfl (Wd.g rfl rfl rfl) rfl rfl (contains_ct s [46, 46] mx_ w0 _ mx (by omega)) (fun v25 H25 r25 => ?_)
          obtain ⟨rfl, hs25⟩ := r25
          replace mx := mx.nw hs25
          replace hm0 := hm0.tr hs25
          have hz1 := hs25.size
          refine LR.v (Y.not rfl rfl) (Wd.g rfl rfl rfl) rfl rfl ?_
          refine LR.v (Y.pick_t rfl rfl rfl) (Wd.u rfl) rfl rfl ?_
          refine LR.v (Y.assign rfl rfl) (Wd.u rfl) rfl rfl ?_
          refine LR.nil ?_
          refine hK2 _ _ ?_
          refine CW.ret (hret .ret (.inr rfl) _ _ _ (res1 rfl rfl) ?_)
          exact ⟨partT ⟨g5, by rw [e0]; omega, by rw [e0]; omega, by rw [e1]; omega⟩, hm0⟩
        ·
          refine LR.gs rfl rfl rfl rfl rfl rfl ?_
          refine LR.gs rfl rfl rfl rfl rfl rfl ?_
          refine LR.gs rfl rfl rfl rfl rfl rfl ?_
          refine LR.v (Y.pick_f rfl rfl rfl) (Wd.u rfl) rfl rfl ?_
          refine LR.v (Y.assign rfl rfl) (Wd.u rfl) rfl rfl ?_
          refine LR.nil ?_
          refine hK2 _ _ ?_
          refine CW.ret (hret .ret (.inr rfl) _ _ _ (res1 rfl rfl) ?_)
          exact ⟨partF (fun h => by have h2 := h.2.2.2; rw [e1] at h2; omega), hm0⟩
      ·
        refine LR.gs rfl rfl rfl rfl rfl rfl ?_
        refine LR.gs rfl rfl rfl rfl rfl rfl ?_
        refine LR.gs rfl rfl rfl rfl rfl rfl ?_
        refine LR.gs rfl rfl rfl rfl rfl rfl ?_
        refine LR.gs rfl rfl rfl rfl rfl rfl ?_
        refine LR.gs rfl rfl rfl rfl rfl rfl ?_
        refine LR.v (Y.pick_f rfl rfl rfl) (Wd.u rfl) rfl rfl ?_
        refine LR.v (Y.move rfl rfl) (Wd.u rfl) rfl rfl ?_
        refine LR.gs rfl rfl rfl rfl rfl rfl ?_
        refine LR.gs rfl rfl rfl rfl rfl rfl ?_
        refine LR.gs rfl rfl rfl rfl rfl rfl ?_
        refine LR.v (Y.pick_f rfl rfl rfl) (Wd.u rfl) rfl rfl ?_
        refine LR.v (Y.assign rfl rfl) (Wd.u rfl) rfl rfl ?_
        refine LR.nil ?_
        refine hK2 _ _ ?_
        refine CW.ret (hret .ret (.inr rfl) _ _ _ (res1 rfl rfl) ?_)
        exact ⟨partF (fun h => by have h2 := h.2.2.1; rw [e0] at h2; omega), hm0⟩
    ·
      refine LR.gs rfl rfl rfl rfl rfl rfl ?_
      refine LR.gs rfl rfl rfl rfl rfl rfl ?_
      refine LR.gs rfl rfl rfl rfl rfl rfl ?_
      refine LR.v (Y.pick_f rfl rfl rfl) (Wd.u rfl) rfl rfl ?_
      refine LR.v (Y.move rfl rfl) (Wd.u rfl) rfl rfl ?_
      refine LR.gs rfl rfl rfl rfl rfl rfl ?_
      refine LR.gs rfl rfl rfl rfl rfl rfl ?_
      refine LR.gs rfl rfl rfl rfl rfl rfl ?_
      refine LR.gs rfl rfl rfl rfl rfl rfl ?_
      refine LR.gs rfl rfl rfl rfl rfl rfl ?_
      refine LR.gs rfl rfl rfl rfl rfl rfl ?_
      refine LR.v (Y.pick_f rfl rfl rfl) (Wd.u rfl) rfl rfl ?_
      refine LR.v (Y.move rfl rfl) (Wd.u rfl) rfl rfl ?_
      refine LR.gs rfl rfl rfl rfl rfl rfl ?_
      refine LR.gs rfl rfl rfl rfl rfl rfl ?_
      refine LR.gs rfl rfl rfl rfl rfl rfl ?_
      refine LR.v (Y.pick_f rfl rfl rfl) (Wd.u rfl) rfl rfl ?_
      refine LR.v (Y.assign rfl rfl) (Wd.u rfl) rfl rfl ?_
      refine LR.nil ?_
      refine hK2 _ _ ?_
      refine CW.ret (hret .ret (.inr rfl) _ _ _ (res1 rfl rfl) ?_)
      exact ⟨partF (fun h => by have h2 := h.2.1; rw [e0] at h2; omega), hm0⟩
  ·
    refine LR.gs rfl rfl rfl rfl rfl rfl ?_
    refine LR.gs rfl rfl rfl rfl rfl rfl ?_
    refine LR.gs rfl rfl rfl rfl rfl rfl ?_
    refine LR.v (Y.pick_f rfl rfl rfl) (Wd.u rfl) rfl rfl ?_
    refine LR.v (Y.move rfl rfl) (Wd.u rfl) rfl rfl ?_
    refine LR.gs rfl rfl rfl rfl rfl rfl ?_
    refine LR.gs rfl rfl rfl rfl rfl rfl ?_
    refine LR.gs rfl rfl rfl rfl rfl rfl ?_
    refine LR.v (Y.pick_f rfl rfl rfl) (Wd.u rfl) rfl rfl ?_
    refine LR.v (Y.move rfl rfl) (Wd.u rfl) rfl rfl ?_
    refine LR.gs rfl rfl rfl rfl rfl rfl ?_
    refine LR.gs rfl rfl rfl rfl rfl rfl ?_
    refine LR.gs rfl rfl rfl rfl rfl rfl ?_
    refine LR.gs rfl rfl rfl rfl rfl rfl ?_
    refine LR.gs rfl rfl rfl rfl rfl rfl ?_
    refine LR.gs rfl rfl rfl rfl rfl rfl ?_
    refine LR.v (Y.pick_f rfl rfl rfl) (Wd.u rfl) rfl rfl ?_
    refine LR.v (Y.move rfl rfl) (Wd.u rfl) rfl rfl ?_
    refine LR.gs rfl rfl rfl rfl rfl rfl ?_
    refine LR.gs rfl rfl rfl rfl rfl rfl ?_
    refine LR.gs rfl rfl rfl rfl rfl rfl ?_
    refine LR.v (Y.pick_f rfl rfl rfl) (Wd.u rfl) rfl rfl ?_
    refine LR.v (Y.assign rfl rfl) (Wd.u rfl) rfl rfl ?_
    refine LR.nil ?_
    refine hK2 _ _ ?_
    refine CW.ret (hret .ret (.inr rfl) _ _ _ (res1 rfl rfl) ?_)
    exact ⟨partF (fun h => g5 h.1), hm0⟩

theorem chk2_ct (s : List UInt8) (mx_ : Int) (w0 : World) (H0 : Heap)
    (mx : MX mx_ H0) (bf_mx : BF (fun b => b = 0) H0.size) (hs : s.length ≤ 1000) :
    Ct Tryd.prog w0 40 #[Str s] H0 (fun r H2 => r = .bool (!partB s) ∧ Nw H0 H2) := by
  refine Ct.enter (args := [Str s]) Tryd.func40 rfl rfl rfl ?_
  intro Q0 hret
  have hm0 : Nw H0 H0 := Mo.refl _ _
  refine CW.seq (fun K1 hK1 hE1 => ?_)
  refine CW.region ?_
  refine LR.v (Y.assign rfl rfl) (Wd.u rfl) rfl rfl ?_
  refine LR.nil ?_
  refine hK1 _ _ ?_
  refine CW.seq (fun K2 hK2 hE2 => ?_)
  refine CW.region ?_
  refine LR.v (Y.move rfl rfl) (Wd.u rfl) rfl rfl ?_
  -- call selvage/name.part
  refine LR.call rfl Tryd.call41 rfl (Wd.u rfl) rfl rfl (part_ct s mx_ w0 _ mx (bf_mx.mono (by omega)) hs) (fun v4 H4 r4 => ?_)
  obtain ⟨rfl, hs4⟩ := r4
  replace mx := mx.nw hs4
  replace hm0 := hm0.tr hs4
  have hz1 := hs4.size
  refine LR.v (Y.not rfl rfl) (Wd.u rfl) rfl rfl ?_
  refine LR.v (Y.assign rfl rfl) (Wd.u rfl) rfl rfl ?_
  refine LR.nil ?_
  refine hK2 _ _ ?_
  refine CW.ret (hret .ret (.inr rfl) _ _ _ (res1 rfl rfl) ?_)
  exact ⟨rfl, hm0⟩

theorem chk_ct (s : List UInt8) (mx_ : Int) (w0 : World) (H0 : Heap)
    (mx : MX mx_ H0) (bf_mx : BF (fun b => b = 0) H0.size) (hs : s.length ≤ 9223372036854775807) :
    Ct Tryd.prog w0 28 #[Str s] H0 (fun r H2 => r = .int .i64 (chk s) ∧ Nw H0 H2) := by
  refine Ct.enter (args := [Str s]) Tryd.func28 rfl rfl rfl ?_
  intro Q0 hret
  have hm0 : Nw H0 H0 := Mo.refl _ _
  refine CW.seq (fun K1 hK1 hE1 => ?_)
  refine CW.region ?_
  refine LR.v (Y.assign rfl rfl) (Wd.u rfl) rfl rfl ?_
  refine LR.nil ?_
  refine hK1 _ _ ?_
  refine CW.seq (fun K2 hK2 hE2 => ?_)
  refine CW.seq (fun K3 hK3 hE3 => ?_)
  refine CW.region ?_
  refine LR.v (Y.move rfl rfl) (Wd.u rfl) rfl rfl ?_
  refine LR.v (Y.slen rfl Tryd.runUnderlying9 rfl) (Wd.u rfl) rfl rfl ?_
  refine LR.v (Y.gtr rfl rfl rfl) (Wd.u rfl) rfl rfl ?_
  refine LR.v (Y.move rfl rfl) (Wd.u rfl) rfl rfl ?_
  refine LR.splitp (d := 6) rfl (fun g6 => ?_) (fun g6 => ?_)
  ·
    refine LR.gs rfl rfl rfl rfl rfl rfl ?_
    refine LR.gs rfl rfl rfl rfl rfl rfl ?_
    refine LR.gs rfl rfl rfl rfl rfl rfl ?_
    refine LR.v (Y.pick_t rfl rfl rfl) (Wd.u rfl) rfl rfl ?_
    refine LR.nil ?_
    refine hK3 _ _ ?_
    refine CW.cond_t rfl ?_
    refine CW.seq (fun K4 hK4 hE4 => ?_)
    refine CW.region ?_
    refine LR.v (Y.assign rfl rfl) (Wd.u rfl) rfl rfl ?_
    refine LR.nil ?_
    refine hK4 _ _ ?_
    refine CW.ret (hE2 .ret nofun _ _ (hret .ret (.inr rfl) _ _ _ (res1 rfl rfl) ?_))
    exact ⟨by first | (rw [chk, if_pos (.inl (by omega))]) | (rw [chk, if_pos (.inr (by assumption))]) | (rw [chk, if_neg (by rintro (h | h); omega; simp_all), if_pos (by assumption)]) | (rw [chk, if_neg (by rintro (h | h); omega; simp_all), if_neg (by simp_all)]), hm0⟩
  ·
    refine LR.v (Y.move rfl rfl) (Wd.g rfl rfl rfl) rfl rfl ?_
    refine LR.z (Z.strbw rfl Tryd.underlying9 Tryd.underlying57 Tryd.underlying5 rfl (by omega)) (Wd.g rfl rfl rfl) rfl rfl (fun v8 H8 r8 => ?_)
    obtain ⟨ow8, hs8, hzs8⟩ := r8
    have df1 := (DF.new (bf_mx.mono hm0.size) : DF _ (H0.size + 1))
    have nx2 : Nx 0 H0.size (H0.size + 1) := Nx.new hm0.size
    replace mx := mx.nw hs8
    replace hm0 := hm0.tr hs8
    have hz1 := hs8.size
    -- call slices.ContainsFunc[[]byte,byte]
    refine LR.call rfl Tryd.call35 rfl (Wd.g rfl rfl rfl) rfl rfl (containsB_ct _ (.func (.func 36) #[] #[]) s (fun c => !goodB c) w0 _ ow8.rd.any (fun x H2 _ _ => Clo.of (caps := []) Tryd.call36 (chk1_ct x w0 H2))) (fun v9 H9 r9 => ?_)
    obtain ⟨rfl, hs9⟩ := r9
    replace mx := mx.nw hs9
    replace ow8 := ow8.nw hs9
    replace hm0 := hm0.tr hs9
    have hz2 := hs9.size
    refine LR.v (Y.pick_f rfl rfl rfl) (Wd.u rfl) rfl rfl ?_
    refine LR.nil ?_
    refine hK3 _ _ ?_
    refine CW.cond rfl (fun c10 => ?_) (fun c10 => ?_)
    ·
      refine CW.seq (fun K5 hK5 hE5 => ?_)
      refine CW.region ?_
      refine LR.v (Y.assign rfl rfl) (Wd.u rfl) rfl rfl ?_
      refine LR.nil ?_
      refine hK5 _ _ ?_
      refine CW.ret (hE2 .ret nofun _ _ (hret .ret (.inr rfl) _ _ _ (res1 rfl rfl) ?_))
      exact ⟨by first | (rw [chk, if_pos (.inl (by omega))]) | (rw [chk, if_pos (.inr (by assumption))]) | (rw [chk, if_neg (by rintro (h | h); omega; simp_all), if_pos (by assumption)]) | (rw [chk, if_neg (by rintro (h | h); omega; simp_all), if_neg (by simp_all)]), hm0⟩
    ·
      refine CW.skip ?_
      refine hK2 _ _ ?_
      refine CW.seq (fun K6 hK6 hE6 => ?_)
      refine CW.seq (fun K7 hK7 hE7 => ?_)
      refine CW.region ?_
      refine LR.v (Y.move rfl rfl) (Wd.u rfl) rfl rfl ?_
      -- call strings.Split
      refine LR.call rfl Tryd.call39 rfl (Wd.u rfl) rfl rfl (split_ct s mx_ w0 _ mx (by omega)) (fun v12 H12 r12 => ?_)
      obtain ⟨vr12, kr12, rfl, ow12, hk12, hs12⟩ := r12
      have df3 := DF.app (DF.z) (bf_mx.mono hm0.size) hk12
      have nx4 : Nx 0 H0.size kr12 := Nx.tr (Nx.refl 0 _) hk12 hm0.size
      replace mx := mx.nw hs12
      replace hm0 := hm0.tr hs12
      have hz3 := hs12.size
      have hle_ow12 := ow12.le
      -- call slices.ContainsFunc[[]string,string]
      refine LR.call rfl Tryd.call38 rfl (Wd.u rfl) rfl rfl (containsS_ct _ (.func (.func 40) #[] #[]) (sp [] s) (fun p => !partB p) w0 _ ow12.rd.any (fun x H2 hn hx => Clo.of (caps := []) Tryd.call40 (chk2_ct x mx_ w0 H2 (mx.nw hn) (bf_mx.mono (by have := hn.size; omega)) (by have := sp_mem hx; simp only [List.length_nil] at this; omega)))) (fun v13 H13 r13 => ?_)
      obtain ⟨rfl, hs13⟩ := r13
      replace mx := mx.nw hs13
      replace ow12 := ow12.nw hs13
      replace hm0 := hm0.tr hs13
      have hz4 := hs13.size
      refine LR.nil ?_
      refine hK7 _ _ ?_
      refine CW.cond rfl (fun c13 => ?_) (fun c13 => ?_)
      ·
        refine CW.seq (fun K8 hK8 hE8 => ?_)
        refine CW.region ?_
        refine LR.v (Y.assign rfl rfl) (Wd.u rfl) rfl rfl ?_
        refine LR.nil ?_
        refine hK8 _ _ ?_
        refine CW.ret (hE6 .ret nofun _ _ (hret .ret (.inr rfl) _ _ _ (res1 rfl rfl) ?_))
        exact ⟨by first | (rw [chk, if_pos (.inl (by omega))]) | (rw [chk, if_pos (.inr (by assumption))]) | (rw [chk, if_neg (by rintro (h | h); omega; simp_all), if_pos (by assumption)]) | (rw [chk, if_neg (by rintro (h | h); omega; simp_all), if_neg (by simp_all)]), hm0⟩
      ·
        refine CW.skip ?_
        refine hK6 _ _ ?_
        refine CW.seq (fun K9 hK9 hE9 => ?_)
        refine CW.region ?_
        refine LR.v (Y.assign rfl rfl) (Wd.u rfl) rfl rfl ?_
        refine LR.nil ?_
        refine hK9 _ _ ?_
        refine CW.ret (hret .ret (.inr rfl) _ _ _ (res1 rfl rfl) ?_)
        exact ⟨by first | (rw [chk, if_pos (.inl (by omega))]) | (rw [chk, if_pos (.inr (by assumption))]) | (rw [chk, if_neg (by rintro (h | h); omega; simp_all), if_pos (by assumption)]) | (rw [chk, if_neg (by rintro (h | h); omega; simp_all), if_neg (by simp_all)]), hm0⟩

end Go.Proofs.YtabopjdbgkhacaaDoor.NamB
