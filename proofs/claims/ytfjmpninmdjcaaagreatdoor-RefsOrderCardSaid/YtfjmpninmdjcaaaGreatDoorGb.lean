/-
  Contracts of functions of the program, and plain laws: put together of several texts.
-/
import Derived.Lib.SplitLaws
import Derived.Test.YtfjmpninmdjcaaaGreatDoorGa
import Derived.Test.YtfjmpninmdjcaaaGreatDoorRows
set_option linter.unusedVariables false
set_option linter.unusedSimpArgs false
set_option linter.unusedSectionVars false
set_option linter.defProp false

namespace Go.Proofs.YtfjmpninmdjcaaaGreatDoor.NamB
open E Go.RowKit NamA
set_option maxRecDepth 20000
theorem idx_ct (s : List UInt8) (c : UInt8) (w0 : World) (H0 : Heap) : Ct Tryz.prog w0 167 #[Str s, .int .u8 c.toNat] H0 (fun r H2 => r = .int .i64 (Lib.indexByte s c) ∧ Nw H0 H2) :=
 Ct.still (fun w ha => by
  have h : Calls Tryz.prog 167 #[Str s, .int .u8 c.toNat] w fun e w' => e = .returned (.int .i64 (Lib.indexByte s ((c.toNat : Int)).toNat.toUInt8)) ∧ w' = w := Any.strings_IndexByte Tryz.lays137 ⟨s.toArray⟩ c.toNat w
  have e : ((c.toNat : Int)).toNat.toUInt8 = c := by simp
  rw [e] at h; exact h)
theorem hasPre_ct (s p : List UInt8) (w0 : World) (H0 : Heap) : Ct Tryz.prog w0 195 #[Str s, Str p] H0 (fun r H2 => r = .bool (p.isPrefixOf s) ∧ Nw H0 H2) :=
 Ct.still (fun w ha => by
  have h : Calls Tryz.prog 195 #[Str s, Str p] w fun e w' => e = .returned (.bool (Lib.hasPrefix s p)) ∧ w' = w := Any.strings_HasPrefix Tryz.lays99 ⟨s.toArray⟩ ⟨p.toArray⟩ w
  exact h)
theorem any_take {α : Type} {l : List α} {p : α → Bool} {j : Nat} (h : (l.take j).any p = false) (hj : j < l.length) (h2 : p l[j] = false) : (l.take (j + 1)).any p = false := by
 rw [List.take_succ_eq_append_getElem hj, List.any_append, h]; simpa using h2
theorem any_at {α : Type} {l : List α} {p : α → Bool} {j : Nat} (hj : j < l.length) (h : p l[j] = true) : l.any p = true := List.any_eq_true.2 ⟨l[j], List.getElem_mem hj, h⟩
def goodB (c : UInt8) : Bool := decide ((97 ≤ c.toNat ∧ c.toNat ≤ 122) ∨ (65 ≤ c.toNat ∧ c.toNat ≤ 90) ∨ (48 ≤ c.toNat ∧ c.toNat ≤ 57) ∨ c.toNat = 46 ∨ c.toNat = 95 ∨ c.toNat = 45 ∨ c.toNat = 47)
theorem goodT {c : UInt8} (h : (97 ≤ c.toNat ∧ c.toNat ≤ 122) ∨ (65 ≤ c.toNat ∧ c.toNat ≤ 90) ∨ (48 ≤ c.toNat ∧ c.toNat ≤ 57) ∨ c.toNat = 46 ∨ c.toNat = 95 ∨ c.toNat = 45 ∨ c.toNat = 47) : Value.bool true = .bool (goodB c) := by rw [goodB, decide_eq_true h]
theorem idx_sign (c : UInt8) : 0 ≤ Lib.indexByte [46, 95, 45, 47] c ↔ (c.toNat = 46 ∨ c.toNat = 95 ∨ c.toNat = 45 ∨ c.toNat = 47) := by
 have h : ∀ n : Fin 256, (decide (0 ≤ Lib.indexByte [46, 95, 45, 47] (UInt8.ofNat n.val)) = decide (n.val = 46 ∨ n.val = 95 ∨ n.val = 45 ∨ n.val = 47)) := by decide +kernel
 have := h ⟨c.toNat, c.toNat_lt⟩
 simp only [UInt8.ofNat_toNat] at this
 exact decide_eq_decide.1 this
def partB (s : List UInt8) : Bool := decide (s ≠ [] ∧ (s.getD 0 0).toNat ≠ 46 ∧ (s.getD 0 0).toNat ≠ 45 ∧ (s.getD (s.length - 1) 0).toNat ≠ 46) && !Lib.contains s [46, 46]
theorem getD_at {l : List UInt8} {i : Nat} (h : i < l.length) : l.getD i 0 = l[i] := by simp [List.getD, h]
theorem partT {s : List UInt8} (h : s ≠ [] ∧ (s.getD 0 0).toNat ≠ 46 ∧ (s.getD 0 0).toNat ≠ 45 ∧ (s.getD (s.length - 1) 0).toNat ≠ 46) : Value.bool (!Lib.contains s [46, 46]) = .bool (partB s) := by rw [partB, decide_eq_true h, Bool.true_and]
theorem partF {s : List UInt8} (h : ¬ (s ≠ [] ∧ (s.getD 0 0).toNat ≠ 46 ∧ (s.getD 0 0).toNat ≠ 45 ∧ (s.getD (s.length - 1) 0).toNat ≠ 46)) : Value.bool false = .bool (partB s) := by rw [partB, decide_eq_false h, Bool.false_and]
def chk (s : List UInt8) : Int := if s.length > 60 ∨ (s.any (fun c => !goodB c)) = true then 7 else if (sp [] s).any (fun p => !partB p) = true then 7 else 0
theorem sp_mem : ∀ {s cur x : List UInt8}, x ∈ sp cur s → x.length ≤ cur.length + s.length
 | [], cur, x, h => by simp [sp] at h; subst h; simp
 | c :: l, cur, x, h => by
   rw [sp] at h
   split at h
   · rcases List.mem_cons.1 h with h | h
     · subst h; omega
     · have := sp_mem h; simp only [List.length_nil, List.length_cons] at *; omega
   · have := sp_mem h; simp only [List.length_append, List.length_cons, List.length_nil] at *; omega
theorem sign_ct (c : UInt8) (w0 : World) (H0 : Heap)
 :
 Ct Tryz.prog w0 125 #[.int .u8 c.toNat] H0 (fun r H2 => r = .bool (goodB c) ∧ Nw H0 H2) := by
 refine Ct.enter (args := [.int .u8 c.toNat]) Tryz.func125 rfl rfl rfl ?_
 intro Q0 hret
 have hm0 : Nw H0 H0 := Mo.refl _ _
 refine CW.s1 (fun hK1 => CW.region ?_)
 refine LR.a1 (LR.nil (hK1 _ _ ?_))
 refine CW.s2 (fun hK2 hE2 => CW.block (fun _ _ hX3 hE3 => CW.s2 (fun hK4 hE4 => CW.block (fun _ hK5 hX5 hE5 => CW.block (fun _ hK6 hX6 hE6 => CW.block (fun _ _ hX7 hE7 => CW.s2 (fun hK8 hE8 => CW.s2 (fun hK9 hE9 => CW.s1 (fun hK10 => CW.region ?_)))))))))
 refine LR.m1 ?_
 refine LR.v1 (Y.geq rfl rfl rfl) ?_
 refine LR.m1 ?_
 refine LR.splitp (d := 6) rfl (fun g6 => ?_) (fun g6 => ?_)
 ·
  refine LR.w1 (Y.move rfl rfl) ?_
  refine LR.w1 (Y.leq rfl rfl rfl) ?_
  refine LR.v1 (Y.pick_t rfl rfl rfl) ?_
  refine LR.a1 (LR.nil (hK10 _ _ ?_))
  refine CW.condp rfl (fun c3 => ?_) (fun c3 => ?_)
  ·
   refine CW.exit (hE9 (.exit 1) nofun _ _ (hE8 (.exit 1) nofun _ _ (hX7 _ _ ?_)))
   refine hK6 _ _ (hK5 _ _ (hK4 _ _ (CW.s2 (fun _ hE11 => CW.s1 (fun hK12 => CW.region ?_)))))
   refine LR.a1 (LR.nil (hK12 _ _ ?_))
   refine CW.ret (hE11 .ret nofun _ _ (hE3 .ret nofun (by simp) _ _ (hE2 .ret nofun _ _ (hret .ret (.inr rfl) _ _ _ (res1 rfl rfl) ?_))))
   exact ⟨by first | exact goodT (by omega) | (rw [goodB]; exact bdec (by rw [hix]; omega)), hm0⟩
  ·
   refine CW.skip (hK9 _ _ (CW.s2 (fun hK13 hE13 => CW.s1 (fun hK14 => CW.region ?_))))
   refine LR.m1 ?_
   refine LR.v1 (Y.geq rfl rfl rfl) ?_
   refine LR.m1 ?_
   refine LR.splitp (d := 13) rfl (fun g13 => ?_) (fun g13 => ?_)
   ·
    refine LR.w1 (Y.move rfl rfl) ?_
    refine LR.w1 (Y.leq rfl rfl rfl) ?_
    refine LR.v1 (Y.pick_t rfl rfl rfl) ?_
    refine LR.a1 (LR.nil (hK14 _ _ ?_))
    refine CW.condp rfl (fun c10 => ?_) (fun c10 => ?_)
    ·
     refine CW.exit (hE13 (.exit 2) nofun _ _ (hE8 (.exit 2) nofun _ _ (hE7 (.exit 2) nofun (by simp) _ _ (hX6 _ _ ?_))))
     refine hK5 _ _ (hK4 _ _ (CW.s2 (fun _ hE15 => CW.s1 (fun hK16 => CW.region ?_))))
     refine LR.a1 (LR.nil (hK16 _ _ ?_))
     refine CW.ret (hE15 .ret nofun _ _ (hE3 .ret nofun (by simp) _ _ (hE2 .ret nofun _ _ (hret .ret (.inr rfl) _ _ _ (res1 rfl rfl) ?_))))
     exact ⟨by first | exact goodT (by omega) | (rw [goodB]; exact bdec (by rw [hix]; omega)), hm0⟩
    ·
     refine CW.skip (hK13 _ _ (CW.s1 (fun hK17 => CW.region ?_)))
     refine LR.m1 ?_
     refine LR.v1 (Y.geq rfl rfl rfl) ?_
     refine LR.m1 ?_
     refine LR.splitp (d := 20) rfl (fun g20 => ?_) (fun g20 => ?_)
     ·
      refine LR.w1 (Y.move rfl rfl) ?_
      refine LR.w1 (Y.leq rfl rfl rfl) ?_
      refine LR.v1 (Y.pick_t rfl rfl rfl) ?_
      refine LR.a1 (LR.nil (hK17 _ _ ?_))
      refine CW.condp rfl (fun c17 => ?_) (fun c17 => ?_)
      ·
       refine CW.exit (hE8 (.exit 3) nofun _ _ (hE7 (.exit 3) nofun (by simp) _ _ (hE6 (.exit 3) nofun (by simp) _ _ (hX5 _ _ ?_))))
       refine hK4 _ _ (CW.s2 (fun _ hE18 => CW.s1 (fun hK19 => CW.region ?_)))
       refine LR.a1 (LR.nil (hK19 _ _ ?_))
       refine CW.ret (hE18 .ret nofun _ _ (hE3 .ret nofun (by simp) _ _ (hE2 .ret nofun _ _ (hret .ret (.inr rfl) _ _ _ (res1 rfl rfl) ?_))))
       exact ⟨by first | exact goodT (by omega) | (rw [goodB]; exact bdec (by rw [hix]; omega)), hm0⟩
      ·
       refine CW.skip (hK8 _ _ ?_)
       refine CW.exit (hE7 (.exit 0) nofun (by simp) _ _ (hE6 (.exit 0) nofun (by simp) _ _ (hE5 (.exit 0) nofun (by simp) _ _ (hE4 (.exit 0) nofun _ _ (hX3 _ _ ?_)))))
       refine hK2 _ _ (CW.s1 (fun hK20 => CW.region ?_))
       refine LR.m1 ?_
       refine LR.call rfl c'167 rfl (Wd.u rfl) rfl rfl (idx_ct [46, 95, 45, 47] c w0 _) (fun v25 H25 r25 => ?_)
       obtain ⟨rfl, hs25⟩ := r25
       replace hm0 := hm0.tr hs25
       have hz1 := hs25.size
       have hix := idx_sign c
       refine LR.v1 (Y.geq rfl rfl rfl) ?_
       refine LR.a1 (LR.nil (hK20 _ _ ?_))
       refine CW.ret (hret .ret (.inr rfl) _ _ _ (res1 rfl rfl) ?_)
       exact ⟨by first | exact goodT (by omega) | (rw [goodB]; exact bdec (by rw [hix]; omega)), hm0⟩
     ·
      refine LR.g1 ?_
      refine LR.g1 ?_
      refine LR.v1 (Y.pick_f rfl rfl rfl) ?_
      refine LR.a1 (LR.nil (hK17 _ _ ?_))
      refine CW.cond_f rfl ?_
      refine CW.skip (hK8 _ _ ?_)
      refine CW.exit (hE7 (.exit 0) nofun (by simp) _ _ (hE6 (.exit 0) nofun (by simp) _ _ (hE5 (.exit 0) nofun (by simp) _ _ (hE4 (.exit 0) nofun _ _ (hX3 _ _ ?_)))))
      refine hK2 _ _ (CW.s1 (fun hK21 => CW.region ?_))
      refine LR.m1 ?_
      refine LR.call rfl c'167 rfl (Wd.u rfl) rfl rfl (idx_ct [46, 95, 45, 47] c w0 _) (fun v25 H25 r25 => ?_)
      obtain ⟨rfl, hs25⟩ := r25
      replace hm0 := hm0.tr hs25
      have hz2 := hs25.size
      have hix := idx_sign c
      refine LR.v1 (Y.geq rfl rfl rfl) ?_
      refine LR.a1 (LR.nil (hK21 _ _ ?_))
      refine CW.ret (hret .ret (.inr rfl) _ _ _ (res1 rfl rfl) ?_)
      exact ⟨by first | exact goodT (by omega) | (rw [goodB]; exact bdec (by rw [hix]; omega)), hm0⟩
   ·
    refine LR.g1 ?_
    refine LR.g1 ?_
    refine LR.v1 (Y.pick_f rfl rfl rfl) ?_
    refine LR.a1 (LR.nil (hK14 _ _ ?_))
    refine CW.cond_f rfl ?_
    refine CW.skip (hK13 _ _ (CW.s1 (fun hK22 => CW.region ?_)))
    refine LR.m1 ?_
    refine LR.v1 (Y.geq rfl rfl rfl) ?_
    refine LR.m1 ?_
    refine LR.splitp (d := 20) rfl (fun g20 => ?_) (fun g20 => ?_)
    ·
     refine LR.w1 (Y.move rfl rfl) ?_
     refine LR.w1 (Y.leq rfl rfl rfl) ?_
     refine LR.v1 (Y.pick_t rfl rfl rfl) ?_
     refine LR.a1 (LR.nil (hK22 _ _ ?_))
     refine CW.condp rfl (fun c17 => ?_) (fun c17 => ?_)
     ·
      refine CW.exit (hE8 (.exit 3) nofun _ _ (hE7 (.exit 3) nofun (by simp) _ _ (hE6 (.exit 3) nofun (by simp) _ _ (hX5 _ _ ?_))))
      refine hK4 _ _ (CW.s2 (fun _ hE23 => CW.s1 (fun hK24 => CW.region ?_)))
      refine LR.a1 (LR.nil (hK24 _ _ ?_))
      refine CW.ret (hE23 .ret nofun _ _ (hE3 .ret nofun (by simp) _ _ (hE2 .ret nofun _ _ (hret .ret (.inr rfl) _ _ _ (res1 rfl rfl) ?_))))
      exact ⟨by first | exact goodT (by omega) | (rw [goodB]; exact bdec (by rw [hix]; omega)), hm0⟩
     ·
      refine CW.skip (hK8 _ _ ?_)
      refine CW.exit (hE7 (.exit 0) nofun (by simp) _ _ (hE6 (.exit 0) nofun (by simp) _ _ (hE5 (.exit 0) nofun (by simp) _ _ (hE4 (.exit 0) nofun _ _ (hX3 _ _ ?_)))))
      refine hK2 _ _ (CW.s1 (fun hK25 => CW.region ?_))
      refine LR.m1 ?_
      refine LR.call rfl c'167 rfl (Wd.u rfl) rfl rfl (idx_ct [46, 95, 45, 47] c w0 _) (fun v25 H25 r25 => ?_)
      obtain ⟨rfl, hs25⟩ := r25
      replace hm0 := hm0.tr hs25
      have hz3 := hs25.size
      have hix := idx_sign c
      refine LR.v1 (Y.geq rfl rfl rfl) ?_
      refine LR.a1 (LR.nil (hK25 _ _ ?_))
      refine CW.ret (hret .ret (.inr rfl) _ _ _ (res1 rfl rfl) ?_)
      exact ⟨by first | exact goodT (by omega) | (rw [goodB]; exact bdec (by rw [hix]; omega)), hm0⟩
    ·
     refine LR.g1 ?_
     refine LR.g1 ?_
     refine LR.v1 (Y.pick_f rfl rfl rfl) ?_
     refine LR.a1 (LR.nil (hK22 _ _ ?_))
     refine CW.cond_f rfl ?_
     refine CW.skip (hK8 _ _ ?_)
     refine CW.exit (hE7 (.exit 0) nofun (by simp) _ _ (hE6 (.exit 0) nofun (by simp) _ _ (hE5 (.exit 0) nofun (by simp) _ _ (hE4 (.exit 0) nofun _ _ (hX3 _ _ ?_)))))
     refine hK2 _ _ (CW.s1 (fun hK26 => CW.region ?_))
     refine LR.m1 ?_
     refine LR.call rfl c'167 rfl (Wd.u rfl) rfl rfl (idx_ct [46, 95, 45, 47] c w0 _) (fun v25 H25 r25 => ?_)
     obtain ⟨rfl, hs25⟩ := r25
     replace hm0 := hm0.tr hs25
     have hz4 := hs25.size
     have hix := idx_sign c
     refine LR.v1 (Y.geq rfl rfl rfl) ?_
     refine LR.a1 (LR.nil (hK26 _ _ ?_))
     refine CW.ret (hret .ret (.inr rfl) _ _ _ (res1 rfl rfl) ?_)
     exact ⟨by first | exact goodT (by omega) | (rw [goodB]; exact bdec (by rw [hix]; omega)), hm0⟩
 ·
  refine LR.g1 ?_
  refine LR.g1 ?_
  refine LR.v1 (Y.pick_f rfl rfl rfl) ?_
  refine LR.a1 (LR.nil (hK10 _ _ ?_))
  refine CW.cond_f rfl ?_
  refine CW.skip (hK9 _ _ (CW.s2 (fun hK27 hE27 => CW.s1 (fun hK28 => CW.region ?_))))
  refine LR.m1 ?_
  refine LR.v1 (Y.geq rfl rfl rfl) ?_
  refine LR.m1 ?_
  refine LR.splitp (d := 13) rfl (fun g13 => ?_) (fun g13 => ?_)
  ·
   refine LR.w1 (Y.move rfl rfl) ?_
   refine LR.w1 (Y.leq rfl rfl rfl) ?_
   refine LR.v1 (Y.pick_t rfl rfl rfl) ?_
   refine LR.a1 (LR.nil (hK28 _ _ ?_))
   refine CW.condp rfl (fun c10 => ?_) (fun c10 => ?_)
   ·
    refine CW.exit (hE27 (.exit 2) nofun _ _ (hE8 (.exit 2) nofun _ _ (hE7 (.exit 2) nofun (by simp) _ _ (hX6 _ _ ?_))))
    refine hK5 _ _ (hK4 _ _ (CW.s2 (fun _ hE29 => CW.s1 (fun hK30 => CW.region ?_))))
    refine LR.a1 (LR.nil (hK30 _ _ ?_))
    refine CW.ret (hE29 .ret nofun _ _ (hE3 .ret nofun (by simp) _ _ (hE2 .ret nofun _ _ (hret .ret (.inr rfl) _ _ _ (res1 rfl rfl) ?_))))
    exact ⟨by first | exact goodT (by omega) | (rw [goodB]; exact bdec (by rw [hix]; omega)), hm0⟩
   ·
    refine CW.skip (hK27 _ _ (CW.s1 (fun hK31 => CW.region ?_)))
    refine LR.m1 ?_
    refine LR.v1 (Y.geq rfl rfl rfl) ?_
    refine LR.m1 ?_
    refine LR.splitp (d := 20) rfl (fun g20 => ?_) (fun g20 => ?_)
    ·
     refine LR.w1 (Y.move rfl rfl) ?_
     refine LR.w1 (Y.leq rfl rfl rfl) ?_
     refine LR.v1 (Y.pick_t rfl rfl rfl) ?_
     refine LR.a1 (LR.nil (hK31 _ _ ?_))
     refine CW.condp rfl (fun c17 => ?_) (fun c17 => ?_)
     ·
      refine CW.exit (hE8 (.exit 3) nofun _ _ (hE7 (.exit 3) nofun (by simp) _ _ (hE6 (.exit 3) nofun (by simp) _ _ (hX5 _ _ ?_))))
      refine hK4 _ _ (CW.s2 (fun _ hE32 => CW.s1 (fun hK33 => CW.region ?_)))
      refine LR.a1 (LR.nil (hK33 _ _ ?_))
      refine CW.ret (hE32 .ret nofun _ _ (hE3 .ret nofun (by simp) _ _ (hE2 .ret nofun _ _ (hret .ret (.inr rfl) _ _ _ (res1 rfl rfl) ?_))))
      exact ⟨by first | exact goodT (by omega) | (rw [goodB]; exact bdec (by rw [hix]; omega)), hm0⟩
     ·
      refine CW.skip (hK8 _ _ ?_)
      refine CW.exit (hE7 (.exit 0) nofun (by simp) _ _ (hE6 (.exit 0) nofun (by simp) _ _ (hE5 (.exit 0) nofun (by simp) _ _ (hE4 (.exit 0) nofun _ _ (hX3 _ _ ?_)))))
      refine hK2 _ _ (CW.s1 (fun hK34 => CW.region ?_))
      refine LR.m1 ?_
      refine LR.call rfl c'167 rfl (Wd.u rfl) rfl rfl (idx_ct [46, 95, 45, 47] c w0 _) (fun v25 H25 r25 => ?_)
      obtain ⟨rfl, hs25⟩ := r25
      replace hm0 := hm0.tr hs25
      have hz5 := hs25.size
      have hix := idx_sign c
      refine LR.v1 (Y.geq rfl rfl rfl) ?_
      refine LR.a1 (LR.nil (hK34 _ _ ?_))
      refine CW.ret (hret .ret (.inr rfl) _ _ _ (res1 rfl rfl) ?_)
      exact ⟨by first | exact goodT (by omega) | (rw [goodB]; exact bdec (by rw [hix]; omega)), hm0⟩
    ·
     refine LR.g1 ?_
     refine LR.g1 ?_
     refine LR.v1 (Y.pick_f rfl rfl rfl) ?_
     refine LR.a1 (LR.nil (hK31 _ _ ?_))
     refine CW.cond_f rfl ?_
     refine CW.skip (hK8 _ _ ?_)
     refine CW.exit (hE7 (.exit 0) nofun (by simp) _ _ (hE6 (.exit 0) nofun (by simp) _ _ (hE5 (.exit 0) nofun (by simp) _ _ (hE4 (.exit 0) nofun _ _ (hX3 _ _ ?_)))))
     refine hK2 _ _ (CW.s1 (fun hK35 => CW.region ?_))
     refine LR.m1 ?_
     refine LR.call rfl c'167 rfl (Wd.u rfl) rfl rfl (idx_ct [46, 95, 45, 47] c w0 _) (fun v25 H25 r25 => ?_)
     obtain ⟨rfl, hs25⟩ := r25
     replace hm0 := hm0.tr hs25
     have hz6 := hs25.size
     have hix := idx_sign c
     refine LR.v1 (Y.geq rfl rfl rfl) ?_
     refine LR.a1 (LR.nil (hK35 _ _ ?_))
     refine CW.ret (hret .ret (.inr rfl) _ _ _ (res1 rfl rfl) ?_)
     exact ⟨by first | exact goodT (by omega) | (rw [goodB]; exact bdec (by rw [hix]; omega)), hm0⟩
  ·
   refine LR.g1 ?_
   refine LR.g1 ?_
   refine LR.v1 (Y.pick_f rfl rfl rfl) ?_
   refine LR.a1 (LR.nil (hK28 _ _ ?_))
   refine CW.cond_f rfl ?_
   refine CW.skip (hK27 _ _ (CW.s1 (fun hK36 => CW.region ?_)))
   refine LR.m1 ?_
   refine LR.v1 (Y.geq rfl rfl rfl) ?_
   refine LR.m1 ?_
   refine LR.splitp (d := 20) rfl (fun g20 => ?_) (fun g20 => ?_)
   ·
    refine LR.w1 (Y.move rfl rfl) ?_
    refine LR.w1 (Y.leq rfl rfl rfl) ?_
    refine LR.v1 (Y.pick_t rfl rfl rfl) ?_
    refine LR.a1 (LR.nil (hK36 _ _ ?_))
    refine CW.condp rfl (fun c17 => ?_) (fun c17 => ?_)
    ·
     refine CW.exit (hE8 (.exit 3) nofun _ _ (hE7 (.exit 3) nofun (by simp) _ _ (hE6 (.exit 3) nofun (by simp) _ _ (hX5 _ _ ?_))))
     refine hK4 _ _ (CW.s2 (fun _ hE37 => CW.s1 (fun hK38 => CW.region ?_)))
     refine LR.a1 (LR.nil (hK38 _ _ ?_))
     refine CW.ret (hE37 .ret nofun _ _ (hE3 .ret nofun (by simp) _ _ (hE2 .ret nofun _ _ (hret .ret (.inr rfl) _ _ _ (res1 rfl rfl) ?_))))
     exact ⟨by first | exact goodT (by omega) | (rw [goodB]; exact bdec (by rw [hix]; omega)), hm0⟩
    ·
     refine CW.skip (hK8 _ _ ?_)
     refine CW.exit (hE7 (.exit 0) nofun (by simp) _ _ (hE6 (.exit 0) nofun (by simp) _ _ (hE5 (.exit 0) nofun (by simp) _ _ (hE4 (.exit 0) nofun _ _ (hX3 _ _ ?_)))))
     refine hK2 _ _ (CW.s1 (fun hK39 => CW.region ?_))
     refine LR.m1 ?_
     refine LR.call rfl c'167 rfl (Wd.u rfl) rfl rfl (idx_ct [46, 95, 45, 47] c w0 _) (fun v25 H25 r25 => ?_)
     obtain ⟨rfl, hs25⟩ := r25
     replace hm0 := hm0.tr hs25
     have hz7 := hs25.size
     have hix := idx_sign c
     refine LR.v1 (Y.geq rfl rfl rfl) ?_
     refine LR.a1 (LR.nil (hK39 _ _ ?_))
     refine CW.ret (hret .ret (.inr rfl) _ _ _ (res1 rfl rfl) ?_)
     exact ⟨by first | exact goodT (by omega) | (rw [goodB]; exact bdec (by rw [hix]; omega)), hm0⟩
   ·
    refine LR.g1 ?_
    refine LR.g1 ?_
    refine LR.v1 (Y.pick_f rfl rfl rfl) ?_
    refine LR.a1 (LR.nil (hK36 _ _ ?_))
    refine CW.cond_f rfl ?_
    refine CW.skip (hK8 _ _ ?_)
    refine CW.exit (hE7 (.exit 0) nofun (by simp) _ _ (hE6 (.exit 0) nofun (by simp) _ _ (hE5 (.exit 0) nofun (by simp) _ _ (hE4 (.exit 0) nofun _ _ (hX3 _ _ ?_)))))
    refine hK2 _ _ (CW.s1 (fun hK40 => CW.region ?_))
    refine LR.m1 ?_
    refine LR.call rfl c'167 rfl (Wd.u rfl) rfl rfl (idx_ct [46, 95, 45, 47] c w0 _) (fun v25 H25 r25 => ?_)
    obtain ⟨rfl, hs25⟩ := r25
    replace hm0 := hm0.tr hs25
    have hz8 := hs25.size
    have hix := idx_sign c
    refine LR.v1 (Y.geq rfl rfl rfl) ?_
    refine LR.a1 (LR.nil (hK40 _ _ ?_))
    refine CW.ret (hret .ret (.inr rfl) _ _ _ (res1 rfl rfl) ?_)
    exact ⟨by first | exact goodT (by omega) | (rw [goodB]; exact bdec (by rw [hix]; omega)), hm0⟩
theorem chk1_ct (c : UInt8) (w0 : World) (H0 : Heap)
 :
 Ct Tryz.prog w0 124 #[.int .u8 c.toNat] H0 (fun r H2 => r = .bool (!goodB c) ∧ Nw H0 H2) := by
 refine Ct.enter (args := [.int .u8 c.toNat]) Tryz.func124 rfl rfl rfl ?_
 intro Q0 hret
 have hm0 : Nw H0 H0 := Mo.refl _ _
 refine CW.s1 (fun hK1 => CW.region ?_)
 refine LR.a1 (LR.nil (hK1 _ _ ?_))
 refine CW.s1 (fun hK2 => CW.region ?_)
 refine LR.m1 ?_
 refine LR.call rfl c'125 rfl (Wd.u rfl) rfl rfl (sign_ct c w0 _) (fun v4 H4 r4 => ?_)
 obtain ⟨rfl, hs4⟩ := r4
 replace hm0 := hm0.tr hs4
 refine LR.v1 (Y.not rfl rfl) ?_
 refine LR.a1 (LR.nil (hK2 _ _ ?_))
 refine CW.ret (hret .ret (.inr rfl) _ _ _ (res1 rfl rfl) ?_)
 exact ⟨rfl, hm0⟩
theorem indexB_ct (v vf : Value) (l : List UInt8) (p : UInt8 → Bool) (w0 : World) (H0 : Heap)
 (hl : RdT H0 fB 1 v l) (hf : ∀ (x : UInt8) (H' : Heap), Nw H0 H' → x ∈ l → Clo Tryz.prog w0 vf [.int .u8 x.toNat] H' (fun r H2 => r = .bool (p x) ∧ Nw H' H2)) :
 Ct Tryz.prog w0 190 #[v, vf] H0 (fun r H2 => ∃ n : Int, r = .int .i64 n ∧ ((0 ≤ n ↔ l.any p = true) ∧ -1 ≤ n ∧ n ≤ 9223372036854775807) ∧ Nw H0 H2) := by
 refine Ct.enter (args := [v, vf]) Tryz.func190 rfl rfl rfl ?_
 intro Q0 hret
 have hm0 : Nw H0 H0 := Mo.refl _ _
 replace hl := hl.bnd
 have hll := hl.len
 refine CW.s1 (fun hK1 => CW.region ?_)
 refine LR.a1 (LR.nil (hK1 _ _ ?_))
 refine CW.s2 (fun hK2 hE2 => CW.s1 (fun hK3 => CW.region ?_))
 refine LR.m1 ?_
 refine LR.v1 (Y.len hl rfl u'57 rfl) ?_
 refine LR.m1 (LR.nil (hK3 _ _ ?_))
 refine CW.block (fun _ _ hX4 hE4 => ?_)
 refine CW.loop (fun (j : (Nat)) => [(0, v), (1, vf), (7, .int .i64 l.length), (8, .int .i64 j)])
  (fun (j : (Nat)) (H : Heap) => (j ≤ l.length) ∧ ((l.take j).any p = false) ∧ Nw H0 H)
  (fun (j : (Nat)) => l.length - j) 0 ⟨rfl, rfl, rfl, rfl, trivial⟩ ?_ ?_
 ·
  exact ⟨(by omega), rfl, Mo.refl _ _⟩
 intro j HL1 hI1 K5 hN5 hE5
 obtain ⟨hj, ha, hlm1⟩ := hI1
 replace hl := hl.nw hlm1
 replace hm0 := hm0.tr hlm1
 have hz1 := hlm1.size
 refine CW.s1 (fun hK6 => CW.region ?_)
 refine LR.v1 (Y.lss rfl rfl rfl) (LR.nil (hK6 _ _ ?_))
 refine CW.s2 (fun hK7 hE7 => ?_)
 refine CW.condp rfl (fun c9 => ?_) (fun c9 => ?_)
 ·
  refine CW.skip (hK7 _ _ (CW.s2 (fun hK8 hE8 => CW.block (fun _ hK9 _ hE9 => CW.s1 (fun hK10 => CW.region ?_)))))
  refine LR.m1 ?_
  refine LR.a1 (LR.nil (hK10 _ _ ?_))
  refine CW.s1 (fun hK11 => CW.region ?_)
  refine LR.m1 ?_
  refine LR.m1 ?_
  refine LR.m1 ?_
  refine LR.e1 (g := fun ad => .pointer (some ad)) (Y.iF hl (j) rfl u'57 s'5 rfl rfl) fun ad14 pt14 => ?_
  refine LR.v1 (Y.load1 pt14.pt rfl a'5 rfl) ?_
  refine LR.calld rfl rfl rfl (Wd.u rfl) rfl rfl (hf l[j] _ hm0 (List.getElem_mem (by omega))) (fun v16 H16 r16 => ?_)
  obtain ⟨rfl, hs16⟩ := r16
  replace hm0 := hm0.tr hs16
  replace hlm1 := hlm1.tr hs16
  have hz2 := hs16.size
  refine LR.nil (hK11 _ _ ?_)
  refine CW.cond rfl (fun c16 => ?_) (fun c16 => ?_)
  ·
   refine CW.s1 (fun hK12 => CW.region ?_)
   refine LR.m1 ?_
   refine LR.a1 (LR.nil (hK12 _ _ ?_))
   refine CW.ret (hE9 .ret nofun (by simp) _ _ (hE8 .ret nofun _ _ (hE5 .ret nofun _ _ (hE4 .ret nofun (by simp) _ _ (hE2 .ret nofun _ _ (hret .ret (.inr rfl) _ _ _ (res1 rfl rfl) ?_))))))
   exact ⟨j, rfl, ⟨⟨fun _ => any_at (j := j) (by omega) (by simpa using c16), fun _ => by omega⟩, by omega, by omega⟩, hm0⟩
  ·
   refine CW.skip (hK9 _ _ (hK8 _ _ (CW.region ?_)))
   refine LR.v1 (Y.addi rfl rfl rfl (by omega)) ?_
   refine LR.m1 (LR.nil ?_)
   refine QN.sub (hN5 (j + 1) _ ?_ ?_) ⟨rfl, rfl, (iv (by omega)), (iv (by omega)), trivial⟩
   · exact ⟨(by omega), any_take ha (by omega) (by simpa using c16), hlm1⟩
   · first | omega | (simp only; omega) | (simp; omega)
 ·
  refine CW.exit (hE7 (.exit 0) nofun _ _ (hE5 (.exit 0) nofun _ _ (hX4 _ _ ?_)))
  refine hK2 _ _ (CW.s1 (fun hK13 => CW.region ?_))
  refine LR.a1 (LR.nil (hK13 _ _ ?_))
  refine CW.ret (hret .ret (.inr rfl) _ _ _ (res1 rfl rfl) ?_)
  exact ⟨-1, rfl, ⟨⟨fun h => by omega, fun h => by rw [List.take_of_length_le (by omega), h] at ha; cases ha⟩, by omega, by omega⟩, hm0⟩
theorem containsB_ct (v vf : Value) (l : List UInt8) (p : UInt8 → Bool) (w0 : World) (H0 : Heap)
 (hl : RdT H0 fB 1 v l) (hf : ∀ (x : UInt8) (H' : Heap), Nw H0 H' → x ∈ l → Clo Tryz.prog w0 vf [.int .u8 x.toNat] H' (fun r H2 => r = .bool (p x) ∧ Nw H' H2)) :
 Ct Tryz.prog w0 123 #[v, vf] H0 (fun r H2 => r = .bool (l.any p) ∧ Nw H0 H2) := by
 refine Ct.enter (args := [v, vf]) Tryz.func123 rfl rfl rfl ?_
 intro Q0 hret
 have hm0 : Nw H0 H0 := Mo.refl _ _
 replace hl := hl.bnd
 have hll := hl.len
 refine CW.s1 (fun hK1 => CW.region ?_)
 refine LR.a1 (LR.nil (hK1 _ _ ?_))
 refine CW.s1 (fun hK2 => CW.region ?_)
 refine LR.m1 ?_
 refine LR.m1 ?_
 refine LR.call rfl c'190 rfl (Wd.u rfl) rfl rfl (indexB_ct _ vf l p w0 _ hl.any hf) (fun v7 H7 r7 => ?_)
 obtain ⟨n7, rfl, hn7, hs7⟩ := r7
 replace hm0 := hm0.tr hs7
 refine LR.v1 (Y.geq rfl rfl rfl) ?_
 refine LR.a1 (LR.nil (hK2 _ _ ?_))
 refine CW.ret (hret .ret (.inr rfl) _ _ _ (res1 rfl rfl) ?_)
 exact ⟨by cases hp : l.any p with | true => (rw [decide_eq_true (hn7.1.2 hp)]) | false => (rw [decide_eq_false (fun h => by rw [hn7.1.1 h] at hp; cases hp)]), hm0⟩
theorem indexS_ct (v vf : Value) (l : List (List UInt8)) (p : List UInt8 → Bool) (w0 : World) (H0 : Heap)
 (hl : RdT H0 fS 1 v l) (hf : ∀ (x : List UInt8) (H' : Heap), Nw H0 H' → x ∈ l → Clo Tryz.prog w0 vf [Str x] H' (fun r H2 => r = .bool (p x) ∧ Nw H' H2)) :
 Ct Tryz.prog w0 191 #[v, vf] H0 (fun r H2 => ∃ n : Int, r = .int .i64 n ∧ ((0 ≤ n ↔ l.any p = true) ∧ -1 ≤ n ∧ n ≤ 9223372036854775807) ∧ Nw H0 H2) := by
 refine Ct.enter (args := [v, vf]) Tryz.func191 rfl rfl rfl ?_
 intro Q0 hret
 have hm0 : Nw H0 H0 := Mo.refl _ _
 replace hl := hl.bnd
 have hll := hl.len
 refine CW.s1 (fun hK1 => CW.region ?_)
 refine LR.a1 (LR.nil (hK1 _ _ ?_))
 refine CW.s2 (fun hK2 hE2 => CW.s1 (fun hK3 => CW.region ?_))
 refine LR.m1 ?_
 refine LR.v1 (Y.len hl rfl u'69 rfl) ?_
 refine LR.m1 (LR.nil (hK3 _ _ ?_))
 refine CW.block (fun _ _ hX4 hE4 => ?_)
 refine CW.loop (fun (j : (Nat)) => [(0, v), (1, vf), (7, .int .i64 l.length), (8, .int .i64 j)])
  (fun (j : (Nat)) (H : Heap) => (j ≤ l.length) ∧ ((l.take j).any p = false) ∧ Nw H0 H)
  (fun (j : (Nat)) => l.length - j) 0 ⟨rfl, rfl, rfl, rfl, trivial⟩ ?_ ?_
 ·
  exact ⟨(by omega), rfl, Mo.refl _ _⟩
 intro j HL1 hI1 K5 hN5 hE5
 obtain ⟨hj, ha, hlm1⟩ := hI1
 replace hl := hl.nw hlm1
 replace hm0 := hm0.tr hlm1
 have hz1 := hlm1.size
 refine CW.s1 (fun hK6 => CW.region ?_)
 refine LR.v1 (Y.lss rfl rfl rfl) (LR.nil (hK6 _ _ ?_))
 refine CW.s2 (fun hK7 hE7 => ?_)
 refine CW.condp rfl (fun c9 => ?_) (fun c9 => ?_)
 ·
  refine CW.skip (hK7 _ _ (CW.s2 (fun hK8 hE8 => CW.block (fun _ hK9 _ hE9 => CW.s1 (fun hK10 => CW.region ?_)))))
  refine LR.m1 ?_
  refine LR.a1 (LR.nil (hK10 _ _ ?_))
  refine CW.s1 (fun hK11 => CW.region ?_)
  refine LR.m1 ?_
  refine LR.m1 ?_
  refine LR.m1 ?_
  refine LR.e1 (g := fun ad => .pointer (some ad)) (Y.iF hl (j) rfl u'69 s'9 rfl rfl) fun ad14 pt14 => ?_
  refine LR.v1 (Y.load1 pt14.pt rfl a'9 rfl) ?_
  refine LR.calld rfl rfl rfl (Wd.u rfl) rfl rfl (hf l[j] _ hm0 (List.getElem_mem (by omega))) (fun v16 H16 r16 => ?_)
  obtain ⟨rfl, hs16⟩ := r16
  replace hm0 := hm0.tr hs16
  replace hlm1 := hlm1.tr hs16
  have hz2 := hs16.size
  refine LR.nil (hK11 _ _ ?_)
  refine CW.cond rfl (fun c16 => ?_) (fun c16 => ?_)
  ·
   refine CW.s1 (fun hK12 => CW.region ?_)
   refine LR.m1 ?_
   refine LR.a1 (LR.nil (hK12 _ _ ?_))
   refine CW.ret (hE9 .ret nofun (by simp) _ _ (hE8 .ret nofun _ _ (hE5 .ret nofun _ _ (hE4 .ret nofun (by simp) _ _ (hE2 .ret nofun _ _ (hret .ret (.inr rfl) _ _ _ (res1 rfl rfl) ?_))))))
   exact ⟨j, rfl, ⟨⟨fun _ => any_at (j := j) (by omega) (by simpa using c16), fun _ => by omega⟩, by omega, by omega⟩, hm0⟩
  ·
   refine CW.skip (hK9 _ _ (hK8 _ _ (CW.region ?_)))
   refine LR.v1 (Y.addi rfl rfl rfl (by omega)) ?_
   refine LR.m1 (LR.nil ?_)
   refine QN.sub (hN5 (j + 1) _ ?_ ?_) ⟨rfl, rfl, (iv (by omega)), (iv (by omega)), trivial⟩
   · exact ⟨(by omega), any_take ha (by omega) (by simpa using c16), hlm1⟩
   · first | omega | (simp only; omega) | (simp; omega)
 ·
  refine CW.exit (hE7 (.exit 0) nofun _ _ (hE5 (.exit 0) nofun _ _ (hX4 _ _ ?_)))
  refine hK2 _ _ (CW.s1 (fun hK13 => CW.region ?_))
  refine LR.a1 (LR.nil (hK13 _ _ ?_))
  refine CW.ret (hret .ret (.inr rfl) _ _ _ (res1 rfl rfl) ?_)
  exact ⟨-1, rfl, ⟨⟨fun h => by omega, fun h => by rw [List.take_of_length_le (by omega), h] at ha; cases ha⟩, by omega, by omega⟩, hm0⟩
theorem containsS_ct (v vf : Value) (l : List (List UInt8)) (p : List UInt8 → Bool) (w0 : World) (H0 : Heap)
 (hl : RdT H0 fS 1 v l) (hf : ∀ (x : List UInt8) (H' : Heap), Nw H0 H' → x ∈ l → Clo Tryz.prog w0 vf [Str x] H' (fun r H2 => r = .bool (p x) ∧ Nw H' H2)) :
 Ct Tryz.prog w0 126 #[v, vf] H0 (fun r H2 => r = .bool (l.any p) ∧ Nw H0 H2) := by
 refine Ct.enter (args := [v, vf]) Tryz.func126 rfl rfl rfl ?_
 intro Q0 hret
 have hm0 : Nw H0 H0 := Mo.refl _ _
 replace hl := hl.bnd
 have hll := hl.len
 refine CW.s1 (fun hK1 => CW.region ?_)
 refine LR.a1 (LR.nil (hK1 _ _ ?_))
 refine CW.s1 (fun hK2 => CW.region ?_)
 refine LR.m1 ?_
 refine LR.m1 ?_
 refine LR.call rfl c'191 rfl (Wd.u rfl) rfl rfl (indexS_ct _ vf l p w0 _ hl.any hf) (fun v7 H7 r7 => ?_)
 obtain ⟨n7, rfl, hn7, hs7⟩ := r7
 replace hm0 := hm0.tr hs7
 refine LR.v1 (Y.geq rfl rfl rfl) ?_
 refine LR.a1 (LR.nil (hK2 _ _ ?_))
 refine CW.ret (hret .ret (.inr rfl) _ _ _ (res1 rfl rfl) ?_)
 exact ⟨by cases hp : l.any p with | true => (rw [decide_eq_true (hn7.1.2 hp)]) | false => (rw [decide_eq_false (fun h => by rw [hn7.1.1 h] at hp; cases hp)]), hm0⟩
theorem part_ct (s : List UInt8) (mx_ : Int) (w0 : World) (H0 : Heap)
 (mx : MX mx_ H0) (bf_mx : BF (fun b => b = 0) H0.size) (hs : s.length ≤ 1000) :
 Ct Tryz.prog w0 129 #[Str s] H0 (fun r H2 => r = .bool (partB s) ∧ Nw H0 H2) := by
 refine Ct.enter (args := [Str s]) Tryz.func129 rfl rfl rfl ?_
 intro Q0 hret
 have hm0 : Nw H0 H0 := Mo.refl _ _
 refine CW.s1 (fun hK1 => CW.region ?_)
 refine LR.a1 (LR.nil (hK1 _ _ ?_))
 refine CW.s1 (fun hK2 => CW.region ?_)
 refine LR.m1 ?_
 refine LR.v1 (Y.sneq rfl rfl rfl) ?_
 refine LR.m1 ?_
 refine LR.splitp (d := 5) rfl (fun g5 => ?_) (fun g5 => ?_)
 ·
  have h0 : 0 < s.length := List.length_pos_iff.2 g5
  have e0 := getD_at (l := s) (i := 0) h0
  have e1 := getD_at (l := s) (i := s.length - 1) (by omega)
  refine LR.w1 (Y.move rfl rfl) ?_
  refine LR.w1 (Y.sindex (0) rfl u'9 rfl rfl (by first | rfl | omega) (by omega)) ?_
  refine LR.w1 (Y.neq rfl rfl rfl) ?_
  refine LR.v1 (Y.pick_t rfl rfl rfl) ?_
  refine LR.m1 ?_
  refine LR.splitp (d := 10) rfl (fun g10 => ?_) (fun g10 => ?_)
  ·
   refine LR.w1 (Y.move rfl rfl) ?_
   refine LR.w1 (Y.sindex (0) rfl u'9 rfl rfl (by first | rfl | omega) (by omega)) ?_
   refine LR.w1 (Y.neq rfl rfl rfl) ?_
   refine LR.v1 (Y.pick_t rfl rfl rfl) ?_
   refine LR.m1 ?_
   refine LR.splitp (d := 15) rfl (fun g15 => ?_) (fun g15 => ?_)
   ·
    refine LR.w1 (Y.move rfl rfl) ?_
    refine LR.w1 (Y.move rfl rfl) ?_
    refine LR.w1 (Y.slen rfl u'9 rfl) ?_
    refine LR.w1 (Y.cast (v2 := .int .i64 ((s.length - 1 : Nat) : Int)) (Y.subi rfl rfl rfl (by omega)) (ivv (by omega))) ?_
    refine LR.w1 (Y.sindex (s.length - 1) rfl u'9 rfl rfl (by first | rfl | omega) (by omega)) ?_
    refine LR.w1 (Y.neq rfl rfl rfl) ?_
    refine LR.v1 (Y.pick_t rfl rfl rfl) ?_
    refine LR.m1 ?_
    refine LR.splitp (d := 23) rfl (fun g23 => ?_) (fun g23 => ?_)
    ·
     refine LR.w1 (Y.move rfl rfl) ?_
     refine LR.call rfl c'166 rfl (Wd.g rfl rfl rfl) rfl rfl (contains_ct s [46, 46] mx_ w0 _ mx (by omega)) (fun v25 H25 r25 => ?_)
     obtain ⟨rfl, hs25⟩ := r25
     replace hm0 := hm0.tr hs25
     have hz1 := hs25.size
     refine LR.w1 (Y.not rfl rfl) ?_
     refine LR.v1 (Y.pick_t rfl rfl rfl) ?_
     refine LR.a1 (LR.nil (hK2 _ _ ?_))
     refine CW.ret (hret .ret (.inr rfl) _ _ _ (res1 rfl rfl) ?_)
     exact ⟨partT ⟨g5, by rw [e0]; omega, by rw [e0]; omega, by rw [e1]; omega⟩, hm0⟩
    ·
     refine LR.g1 ?_
     refine LR.g1 ?_
     refine LR.g1 ?_
     refine LR.v1 (Y.pick_f rfl rfl rfl) ?_
     refine LR.a1 (LR.nil (hK2 _ _ ?_))
     refine CW.ret (hret .ret (.inr rfl) _ _ _ (res1 rfl rfl) ?_)
     exact ⟨partF (fun h => by have h2 := h.2.2.2; rw [e1] at h2; omega), hm0⟩
   ·
    refine LR.g1 ?_
    refine LR.g1 ?_
    refine LR.g1 ?_
    refine LR.g1 ?_
    refine LR.g1 ?_
    refine LR.g1 ?_
    refine LR.v1 (Y.pick_f rfl rfl rfl) ?_
    refine LR.m1 ?_
    refine LR.g1 ?_
    refine LR.g1 ?_
    refine LR.g1 ?_
    refine LR.v1 (Y.pick_f rfl rfl rfl) ?_
    refine LR.a1 (LR.nil (hK2 _ _ ?_))
    refine CW.ret (hret .ret (.inr rfl) _ _ _ (res1 rfl rfl) ?_)
    exact ⟨partF (fun h => by have h2 := h.2.2.1; rw [e0] at h2; omega), hm0⟩
  ·
   refine LR.g1 ?_
   refine LR.g1 ?_
   refine LR.g1 ?_
   refine LR.v1 (Y.pick_f rfl rfl rfl) ?_
   refine LR.m1 ?_
   refine LR.g1 ?_
   refine LR.g1 ?_
   refine LR.g1 ?_
   refine LR.g1 ?_
   refine LR.g1 ?_
   refine LR.g1 ?_
   refine LR.v1 (Y.pick_f rfl rfl rfl) ?_
   refine LR.m1 ?_
   refine LR.g1 ?_
   refine LR.g1 ?_
   refine LR.g1 ?_
   refine LR.v1 (Y.pick_f rfl rfl rfl) ?_
   refine LR.a1 (LR.nil (hK2 _ _ ?_))
   refine CW.ret (hret .ret (.inr rfl) _ _ _ (res1 rfl rfl) ?_)
   exact ⟨partF (fun h => by have h2 := h.2.1; rw [e0] at h2; omega), hm0⟩
 ·
  refine LR.g1 ?_
  refine LR.g1 ?_
  refine LR.g1 ?_
  refine LR.v1 (Y.pick_f rfl rfl rfl) ?_
  refine LR.m1 ?_
  refine LR.g1 ?_
  refine LR.g1 ?_
  refine LR.g1 ?_
  refine LR.v1 (Y.pick_f rfl rfl rfl) ?_
  refine LR.m1 ?_
  refine LR.g1 ?_
  refine LR.g1 ?_
  refine LR.g1 ?_
  refine LR.g1 ?_
  refine LR.g1 ?_
  refine LR.g1 ?_
  refine LR.v1 (Y.pick_f rfl rfl rfl) ?_
  refine LR.m1 ?_
  refine LR.g1 ?_
  refine LR.g1 ?_
  refine LR.g1 ?_
  refine LR.v1 (Y.pick_f rfl rfl rfl) ?_
  refine LR.a1 (LR.nil (hK2 _ _ ?_))
  refine CW.ret (hret .ret (.inr rfl) _ _ _ (res1 rfl rfl) ?_)
  exact ⟨partF (fun h => g5 h.1), hm0⟩
theorem chk2_ct (s : List UInt8) (mx_ : Int) (w0 : World) (H0 : Heap)
 (mx : MX mx_ H0) (bf_mx : BF (fun b => b = 0) H0.size) (hs : s.length ≤ 1000) :
 Ct Tryz.prog w0 128 #[Str s] H0 (fun r H2 => r = .bool (!partB s) ∧ Nw H0 H2) := by
 refine Ct.enter (args := [Str s]) Tryz.func128 rfl rfl rfl ?_
 intro Q0 hret
 have hm0 : Nw H0 H0 := Mo.refl _ _
 refine CW.s1 (fun hK1 => CW.region ?_)
 refine LR.a1 (LR.nil (hK1 _ _ ?_))
 refine CW.s1 (fun hK2 => CW.region ?_)
 refine LR.m1 ?_
 refine LR.call rfl c'129 rfl (Wd.u rfl) rfl rfl (part_ct s mx_ w0 _ mx (bf_mx.mono (by omega)) hs) (fun v4 H4 r4 => ?_)
 obtain ⟨rfl, hs4⟩ := r4
 replace hm0 := hm0.tr hs4
 refine LR.v1 (Y.not rfl rfl) ?_
 refine LR.a1 (LR.nil (hK2 _ _ ?_))
 refine CW.ret (hret .ret (.inr rfl) _ _ _ (res1 rfl rfl) ?_)
 exact ⟨rfl, hm0⟩
theorem chk_ct (s : List UInt8) (mx_ : Int) (w0 : World) (H0 : Heap)
 (mx : MX mx_ H0) (bf_mx : BF (fun b => b = 0) H0.size) (hs : s.length ≤ 9223372036854775807) :
 Ct Tryz.prog w0 48 #[Str s] H0 (fun r H2 => r = .int .i64 (chk s) ∧ Nw H0 H2) := by
 refine Ct.enter (args := [Str s]) Tryz.func48 rfl rfl rfl ?_
 intro Q0 hret
 have hm0 : Nw H0 H0 := Mo.refl _ _
 refine CW.s1 (fun hK1 => CW.region ?_)
 refine LR.a1 (LR.nil (hK1 _ _ ?_))
 refine CW.s2 (fun hK2 hE2 => CW.s1 (fun hK3 => CW.region ?_))
 refine LR.m1 ?_
 refine LR.v1 (Y.slen rfl u'9 rfl) ?_
 refine LR.v1 (Y.gtr rfl rfl rfl) ?_
 refine LR.m1 ?_
 refine LR.splitp (d := 6) rfl (fun g6 => ?_) (fun g6 => ?_)
 ·
  refine LR.g1 ?_
  refine LR.g1 ?_
  refine LR.g1 ?_
  refine LR.v1 (Y.pick_t rfl rfl rfl) (LR.nil (hK3 _ _ ?_))
  refine CW.cond_t rfl ?_
  refine CW.s1 (fun hK4 => CW.region ?_)
  refine LR.a1 (LR.nil (hK4 _ _ ?_))
  refine CW.ret (hE2 .ret nofun _ _ (hret .ret (.inr rfl) _ _ _ (res1 rfl rfl) ?_))
  exact ⟨by first | (rw [chk, if_pos (.inl (by omega))]) | (rw [chk, if_pos (.inr (by assumption))]) | (rw [chk, if_neg (by rintro (h | h); omega; simp_all), if_pos (by assumption)]) | (rw [chk, if_neg (by rintro (h | h); omega; simp_all), if_neg (by simp_all)]), hm0⟩
 ·
  refine LR.w1 (Y.move rfl rfl) ?_
  refine LR.z (Z.strbw rfl Tryz.underlying9 Tryz.underlying57 Tryz.underlying5 rfl (by omega)) (Wd.g rfl rfl rfl) rfl rfl (fun v8 H8 r8 => ?_)
  obtain ⟨ow8, hs8, hzs8⟩ := r8
  replace mx := mx.nw hs8
  replace hm0 := hm0.tr hs8
  have hz1 := hs8.size
  refine LR.call rfl c'123 rfl (Wd.g rfl rfl rfl) rfl rfl (containsB_ct _ (.func (.func 124) #[] #[]) s (fun c => !goodB c) w0 _ ow8.rd.any (fun x H2 _ _ => Clo.of (caps := []) c'124 (chk1_ct x w0 H2))) (fun v9 H9 r9 => ?_)
  obtain ⟨rfl, hs9⟩ := r9
  replace mx := mx.nw hs9
  replace hm0 := hm0.tr hs9
  have hz2 := hs9.size
  refine LR.v1 (Y.pick_f rfl rfl rfl) (LR.nil (hK3 _ _ ?_))
  refine CW.cond rfl (fun c10 => ?_) (fun c10 => ?_)
  ·
   refine CW.s1 (fun hK5 => CW.region ?_)
   refine LR.a1 (LR.nil (hK5 _ _ ?_))
   refine CW.ret (hE2 .ret nofun _ _ (hret .ret (.inr rfl) _ _ _ (res1 rfl rfl) ?_))
   exact ⟨by first | (rw [chk, if_pos (.inl (by omega))]) | (rw [chk, if_pos (.inr (by assumption))]) | (rw [chk, if_neg (by rintro (h | h); omega; simp_all), if_pos (by assumption)]) | (rw [chk, if_neg (by rintro (h | h); omega; simp_all), if_neg (by simp_all)]), hm0⟩
  ·
   refine CW.skip (hK2 _ _ (CW.s2 (fun hK6 hE6 => CW.s1 (fun hK7 => CW.region ?_))))
   refine LR.m1 ?_
   refine LR.call rfl c'127 rfl (Wd.u rfl) rfl rfl (split_ct s mx_ w0 _ mx (by omega)) (fun v12 H12 r12 => ?_)
   obtain ⟨vr12, kr12, rfl, ow12, hk12, hs12⟩ := r12
   replace mx := mx.nw hs12
   replace hm0 := hm0.tr hs12
   have hz3 := hs12.size
   have hle_ow12 := ow12.le
   refine LR.call rfl c'126 rfl (Wd.u rfl) rfl rfl (containsS_ct _ (.func (.func 128) #[] #[]) (sp [] s) (fun p => !partB p) w0 _ ow12.rd.any (fun x H2 hn hx => Clo.of (caps := []) c'128 (chk2_ct x mx_ w0 H2 (mx.nw hn) (bf_mx.mono (by have := hn.size; omega)) (by have := sp_mem hx; simp only [List.length_nil] at this; omega)))) (fun v13 H13 r13 => ?_)
   obtain ⟨rfl, hs13⟩ := r13
   replace hm0 := hm0.tr hs13
   have hz4 := hs13.size
   refine LR.nil (hK7 _ _ ?_)
   refine CW.cond rfl (fun c13 => ?_) (fun c13 => ?_)
   ·
    refine CW.s1 (fun hK8 => CW.region ?_)
    refine LR.a1 (LR.nil (hK8 _ _ ?_))
    refine CW.ret (hE6 .ret nofun _ _ (hret .ret (.inr rfl) _ _ _ (res1 rfl rfl) ?_))
    exact ⟨by first | (rw [chk, if_pos (.inl (by omega))]) | (rw [chk, if_pos (.inr (by assumption))]) | (rw [chk, if_neg (by rintro (h | h); omega; simp_all), if_pos (by assumption)]) | (rw [chk, if_neg (by rintro (h | h); omega; simp_all), if_neg (by simp_all)]), hm0⟩
   ·
    refine CW.skip (hK6 _ _ (CW.s1 (fun hK9 => CW.region ?_)))
    refine LR.a1 (LR.nil (hK9 _ _ ?_))
    refine CW.ret (hret .ret (.inr rfl) _ _ _ (res1 rfl rfl) ?_)
    exact ⟨by first | (rw [chk, if_pos (.inl (by omega))]) | (rw [chk, if_pos (.inr (by assumption))]) | (rw [chk, if_neg (by rintro (h | h); omega; simp_all), if_pos (by assumption)]) | (rw [chk, if_neg (by rintro (h | h); omega; simp_all), if_neg (by simp_all)]), hm0⟩
end Go.Proofs.YtfjmpninmdjcaaaGreatDoor.NamB

namespace Go.Proofs.YtfjmpninmdjcaaaGreatDoor.NamC
open E Go.RowKit NamA NamB
set_option maxRecDepth 20000
def scan (p : Nat) : List UInt8 → Prop
 | [] => p ≠ 47 ∧ p ≠ 46
 | c :: l => goodB c = true ∧ (c.toNat = 47 → p ≠ 47 ∧ p ≠ 46) ∧ (p = 47 → c.toNat ≠ 46 ∧ c.toNat ≠ 45) ∧ ¬ (c.toNat = 46 ∧ p = 46) ∧ scan c.toNat l
def lst (cur : List UInt8) : Nat := match cur.getLast? with | none => 47 | some c => c.toNat
theorem lst_snoc (cur : List UInt8) (c : UInt8) : lst (cur ++ [c]) = c.toNat := by simp [lst]
def dd : List UInt8 → Bool
 | [] => false
 | c :: l => (decide (c.toNat = 46) && (match l.head? with | none => false | some d => decide (d.toNat = 46))) || dd l
theorem n46 {c : UInt8} : (46 == c) = decide (c.toNat = 46) := by
 have : (46 = c) ↔ (c.toNat = 46) := ⟨fun h => by rw [← h]; rfl, fun h => by apply UInt8.toNat.inj; rw [h]; rfl⟩
 by_cases h : 46 = c
 · rw [decide_eq_true (this.1 h)]; simpa using h
 · rw [decide_eq_false (fun e => h (this.2 e))]; simpa using h
theorem dd_contains : ∀ l : List UInt8, Lib.contains l [46, 46] = dd l
 | [] => by decide
 | c :: l => by
   have ih := dd_contains l
   unfold Lib.contains at ih ⊢
   have hge := Lib.index_ge l [46, 46]
   have hp : ([46, 46] : List UInt8).isPrefixOf (c :: l) = (decide (c.toNat = 46) && (match l.head? with | none => false | some d => decide (d.toNat = 46))) := by
    cases l with
    | nil => rw [List.isPrefixOf, n46]; simp
    | cons d l => rw [List.isPrefixOf, List.isPrefixOf, n46, n46]; simp
   rw [Lib.index, hp, dd]
   cases h : (decide (c.toNat = 46) && (match l.head? with | none => false | some d => decide (d.toNat = 46))) with
   | true => simp
   | false =>
     rw [if_neg (by simp), Bool.false_or, ← ih]
     by_cases hm : Lib.index l [46, 46] = -1
     · rw [if_pos (by rw [hm]; rfl), hm]
     · rw [if_neg (by simpa using hm)]; exact decide_eq_decide.2 (by omega)
theorem dd_snoc : ∀ (l : List UInt8) (c : UInt8), dd (l ++ [c]) = (dd l || (decide (lst l = 46) && decide (c.toNat = 46)))
 | [], c => by simp [dd, lst]
 | [d], c => by
   have h1 : lst [d] = d.toNat := rfl
   have h2 : dd [d] = false := by simp [dd]
   have h3 : dd ([d] ++ [c]) = (decide (d.toNat = 46) && decide (c.toNat = 46) || dd [c]) := rfl
   have h4 : dd [c] = false := by simp [dd]
   rw [h1, h2, h3, h4, Bool.or_false, Bool.false_or]
 | d :: e :: l, c => by
   have ih := dd_snoc (e :: l) c
   have h1 : lst (d :: e :: l) = lst (e :: l) := by simp [lst]
   have h2 : dd (d :: e :: l) = (decide (d.toNat = 46) && decide (e.toNat = 46) || dd (e :: l)) := rfl
   have h3 : dd (d :: e :: l ++ [c]) = (decide (d.toNat = 46) && decide (e.toNat = 46) || dd (e :: l ++ [c])) := rfl
   rw [h1, h2, h3, ih, Bool.or_assoc]
def preP (cur : List UInt8) : Prop := (cur ≠ [] → (cur.getD 0 0).toNat ≠ 46 ∧ (cur.getD 0 0).toNat ≠ 45) ∧ dd cur = false
theorem lst_at {s : List UInt8} (h : s ≠ []) : lst s = (s.getD (s.length - 1) 0).toNat := by
 have : s.getLast? = some (s.getD (s.length - 1) 0) := by
  rw [List.getLast?_eq_getElem?, List.getD_eq_getElem?_getD]
  have := List.length_pos_iff.2 h
  rw [List.getElem?_eq_getElem (by omega)]; rfl
 unfold lst; rw [this]
theorem part_iff {cur : List UInt8} (h47 : ∀ c ∈ cur, c.toNat ≠ 47) : partB cur = true ↔ preP cur ∧ lst cur ≠ 47 ∧ lst cur ≠ 46 := by
 unfold partB preP
 rw [dd_contains, Bool.and_eq_true, decide_eq_true_eq]
 by_cases h0 : cur = []
 · subst h0; simp [lst]
 · rw [lst_at h0]
   have hm : cur.getD (cur.length - 1) 0 ∈ cur := by
    have := List.length_pos_iff.2 h0
    rw [getD_at (by omega)]; exact List.getElem_mem _
   have := h47 _ hm
   simp only [h0, ne_eq, not_false_eq_true, true_and, forall_const, Bool.not_eq_true']
   constructor
   · rintro ⟨⟨a, b, c⟩, d⟩; exact ⟨⟨⟨a, b⟩, d⟩, this, c⟩
   · rintro ⟨⟨⟨a, b⟩, d⟩, _, c⟩; exact ⟨⟨a, b, c⟩, d⟩
theorem pre_snoc {cur : List UInt8} {c : UInt8} (h47 : ∀ c ∈ cur, c.toNat ≠ 47) : preP (cur ++ [c]) ↔ preP cur ∧ (lst cur = 47 → c.toNat ≠ 46 ∧ c.toNat ≠ 45) ∧ ¬ (c.toNat = 46 ∧ lst cur = 46) := by
 unfold preP
 rw [dd_snoc]
 cases cur with
 | nil => simp [dd, lst]
 | cons d l =>
   have hm : lst (d :: l) ≠ 47 := by
    rw [lst_at (by simp)]
    refine h47 _ ?_
    rw [getD_at (by simp)]; exact List.getElem_mem _
   simp only [List.cons_append, ne_eq, reduceCtorEq, not_false_eq_true, List.getD_cons_zero, forall_const, Bool.or_eq_false_iff, Bool.and_eq_false_iff, decide_eq_false_iff_not, hm, false_implies, true_and]
   constructor
   · rintro ⟨a, b, c⟩; exact ⟨⟨a, b⟩, fun h => by rcases c with c | c; exact c h.2; exact c h.1⟩
   · rintro ⟨⟨a, b⟩, c⟩
     refine ⟨a, b, ?_⟩
     by_cases h : lst (d :: l) = 46
     · exact .inr (fun e => c ⟨e, h⟩)
     · exact .inl h
theorem n47 {c : UInt8} : c = 47 ↔ c.toNat = 47 := ⟨fun h => by rw [h]; rfl, fun h => by apply UInt8.toNat.inj; rw [h]; rfl⟩
theorem g47 : goodB 47 = true := by decide
theorem sp_scan : ∀ (s cur : List UInt8), (∀ c ∈ cur, c.toNat ≠ 47) → (((∀ p ∈ sp cur s, partB p = true) ∧ (∀ c ∈ s, goodB c = true)) ↔ (preP cur ∧ scan (lst cur) s))
 | [], cur, h => by
   simp only [sp, List.mem_singleton, forall_eq, List.not_mem_nil, false_implies, implies_true, and_true, scan]
   exact part_iff h
 | c :: l, cur, h => by
   by_cases hc : c = 47
   · subst hc
     have ih := sp_scan l [] (fun c h => by cases h)
     have e0 : lst [] = 47 := rfl
     have p0 : preP [] := ⟨fun h => absurd rfl h, rfl⟩
     rw [e0] at ih
     have t47 : (47 : UInt8).toNat = 47 := rfl
     simp only [sp, if_true, List.mem_cons, forall_eq_or_imp, scan, g47, t47, true_and, ne_eq, forall_const]
     have := part_iff h
     constructor
     · rintro ⟨⟨a, b⟩, d⟩
       obtain ⟨q1, q2, q3⟩ := this.1 a
       exact ⟨q1, ⟨q2, q3⟩, fun _ => ⟨by decide, by decide⟩, fun e => by omega, (ih.1 ⟨b, d⟩).2⟩
     · rintro ⟨a, ⟨b, d⟩, _, _, e⟩
       obtain ⟨q1, q2⟩ := ih.2 ⟨p0, e⟩
       exact ⟨⟨this.2 ⟨a, b, d⟩, q1⟩, q2⟩
   · have hn : c.toNat ≠ 47 := fun e => hc (n47.2 e)
     have h2 : ∀ d ∈ cur ++ [c], d.toNat ≠ 47 := by
      intro d hd
      rcases List.mem_append.1 hd with hd | hd
      · exact h d hd
      · rw [List.mem_singleton] at hd; rw [hd]; exact hn
     have ih := sp_scan l (cur ++ [c]) h2
     rw [lst_snoc, pre_snoc h] at ih
     simp only [sp, if_neg hc, List.mem_cons, forall_eq_or_imp, scan]
     constructor
     · rintro ⟨a, b, d⟩
       obtain ⟨⟨q1, q2, q3⟩, q4⟩ := ih.1 ⟨a, d⟩
       exact ⟨q1, b, fun e => absurd e hn, q2, q3, q4⟩
     · rintro ⟨a, b, _, q2, q3, q4⟩
       obtain ⟨r1, r2⟩ := ih.2 ⟨⟨a, q2, q3⟩, q4⟩
       exact ⟨r1, b, r2⟩
theorem chk_iff (s : List UInt8) : chk s = 0 ↔ s.length ≤ 60 ∧ scan 47 s := by
 have h := sp_scan s [] (fun c h => by cases h)
 have p0 : preP [] := ⟨fun h => absurd rfl h, rfl⟩
 rw [show lst [] = 47 from rfl] at h
 unfold chk
 constructor
 · intro h0
   split at h0
   · cases h0
   · rename_i h1
     split at h0
     · cases h0
     · rename_i h2
       refine ⟨by omega, (h.1 ⟨fun p hp => ?_, fun c hc => ?_⟩).2⟩
       · simp only [List.any_eq_true, not_exists, not_and, Bool.not_eq_true', Bool.not_eq_false] at h2
         exact h2 p hp
       · have h3 : ¬ (s.any (fun c => !goodB c)) = true := fun e => h1 (.inr e)
         simp only [List.any_eq_true, not_exists, not_and, Bool.not_eq_true', Bool.not_eq_false] at h3
         exact h3 c hc
 · rintro ⟨h1, h2⟩
   obtain ⟨h3, h4⟩ := h.2 ⟨p0, h2⟩
   rw [if_neg, if_neg]
   · intro e
     obtain ⟨p, hp, e⟩ := List.any_eq_true.1 e
     rw [h3 p hp] at e; cases e
   · rintro (e | e)
     · omega
     · obtain ⟨c, hc, e⟩ := List.any_eq_true.1 e
       rw [h4 c hc] at e; cases e
theorem chk_or (s : List UInt8) : chk s = 0 ∨ chk s = 7 := by
 unfold chk
 split
 · exact .inr rfl
 · split
   · exact .inr rfl
   · exact .inl rfl
end Go.Proofs.YtfjmpninmdjcaaaGreatDoor.NamC

namespace Go.Proofs.YtfjmpninmdjcaaaGreatDoor.NamD
open E Go.RowKit NamA NamB NamC
set_option maxRecDepth 20000
def adj (s o : List UInt8) : Bool := (s ++ [47]).isPrefixOf o || (o ++ [47]).isPrefixOf s
def base (s : List UInt8) (l : List (List UInt8)) : Int := if chk s ≠ 0 then chk s else if s ∈ l then 8 else 0
def fitsL (s : List UInt8) (l : List (List UInt8)) : Int := if base s l ≠ 0 then base s l else if l.any (adj s) = true then 13 else 0
theorem mem_take_succ {s : List UInt8} {l : List (List UInt8)} {j : Nat} (h : s ∉ l.take j) (hj : j < l.length) (h2 : s ≠ l[j]) : s ∉ l.take (j + 1) := by
 rw [List.take_succ_eq_append_getElem hj]; simp only [List.mem_append, List.mem_singleton, not_or]; exact ⟨h, h2⟩
theorem index_ct (v : Value) (x : List UInt8) (l : List (List UInt8)) (w0 : World) (H0 : Heap)
 (hl : RdT H0 fS 1 v l) :
 Ct Tryz.prog w0 230 #[v, Str x] H0 (fun r H2 => ∃ n : Int, r = .int .i64 n ∧ ((0 ≤ n ↔ x ∈ l) ∧ -1 ≤ n ∧ n ≤ 9223372036854775807) ∧ Nw H0 H2) := by
 refine Ct.enter (args := [v, Str x]) Tryz.func230 rfl rfl rfl ?_
 intro Q0 hret
 have hm0 : Nw H0 H0 := Mo.refl _ _
 replace hl := hl.bnd
 have hll := hl.len
 refine CW.s1 (fun hK1 => CW.region ?_)
 refine LR.a1 (LR.nil (hK1 _ _ ?_))
 refine CW.s2 (fun hK2 hE2 => CW.s1 (fun hK3 => CW.region ?_))
 refine LR.m1 ?_
 refine LR.v1 (Y.len hl rfl u'69 rfl) ?_
 refine LR.m1 (LR.nil (hK3 _ _ ?_))
 refine CW.block (fun _ _ hX4 hE4 => ?_)
 refine CW.loop (fun (j : (Nat)) => [(0, v), (1, Str x), (7, .int .i64 l.length), (8, .int .i64 j)])
  (fun (j : (Nat)) (H : Heap) => (j ≤ l.length) ∧ (x ∉ l.take j) ∧ Nw H0 H)
  (fun (j : (Nat)) => l.length - j) 0 ⟨rfl, rfl, rfl, rfl, trivial⟩ ?_ ?_
 ·
  exact ⟨(by omega), (fun h => by simp at h), Mo.refl _ _⟩
 intro j HL1 hI1 K5 hN5 hE5
 obtain ⟨hj, ha, hlm1⟩ := hI1
 replace hl := hl.nw hlm1
 replace hm0 := hm0.tr hlm1
 have hz1 := hlm1.size
 refine CW.s1 (fun hK6 => CW.region ?_)
 refine LR.v1 (Y.lss rfl rfl rfl) (LR.nil (hK6 _ _ ?_))
 refine CW.s2 (fun hK7 hE7 => ?_)
 refine CW.condp rfl (fun c9 => ?_) (fun c9 => ?_)
 ·
  refine CW.skip (hK7 _ _ (CW.s2 (fun hK8 hE8 => CW.block (fun _ hK9 _ hE9 => CW.s1 (fun hK10 => CW.region ?_)))))
  refine LR.m1 ?_
  refine LR.a1 (LR.nil (hK10 _ _ ?_))
  refine CW.s1 (fun hK11 => CW.region ?_)
  refine LR.m1 ?_
  refine LR.m1 ?_
  refine LR.m1 ?_
  refine LR.e1 (g := fun ad => .pointer (some ad)) (Y.iF hl (j) rfl u'69 s'9 rfl rfl) fun ad14 pt14 => ?_
  refine LR.v1 (Y.load1 pt14.pt rfl a'9 rfl) ?_
  refine LR.v1 (Y.seql rfl rfl rfl) (LR.nil (hK11 _ _ ?_))
  refine CW.condp rfl (fun c16 => ?_) (fun c16 => ?_)
  ·
   refine CW.s1 (fun hK12 => CW.region ?_)
   refine LR.m1 ?_
   refine LR.a1 (LR.nil (hK12 _ _ ?_))
   refine CW.ret (hE9 .ret nofun (by simp) _ _ (hE8 .ret nofun _ _ (hE5 .ret nofun _ _ (hE4 .ret nofun (by simp) _ _ (hE2 .ret nofun _ _ (hret .ret (.inr rfl) _ _ _ (res1 rfl rfl) ?_))))))
   exact ⟨j, rfl, ⟨⟨fun _ => by rw [c16]; exact List.getElem_mem _, fun _ => by omega⟩, by omega, by omega⟩, hm0⟩
  ·
   refine CW.skip (hK9 _ _ (hK8 _ _ (CW.region ?_)))
   refine LR.v1 (Y.addi rfl rfl rfl (by omega)) ?_
   refine LR.m1 (LR.nil ?_)
   refine QN.sub (hN5 (j + 1) _ ?_ ?_) ⟨rfl, rfl, (iv (by omega)), (iv (by omega)), trivial⟩
   · exact ⟨(by omega), mem_take_succ ha (by omega) (by simpa using c16), hlm1⟩
   · first | omega | (simp only; omega) | (simp; omega)
 ·
  refine CW.exit (hE7 (.exit 0) nofun _ _ (hE5 (.exit 0) nofun _ _ (hX4 _ _ ?_)))
  refine hK2 _ _ (CW.s1 (fun hK13 => CW.region ?_))
  refine LR.a1 (LR.nil (hK13 _ _ ?_))
  refine CW.ret (hret .ret (.inr rfl) _ _ _ (res1 rfl rfl) ?_)
  exact ⟨-1, rfl, ⟨⟨fun h => by omega, fun h => by rw [List.take_of_length_le (by omega)] at ha; exact absurd h ha⟩, by omega, by omega⟩, hm0⟩
theorem contain_ct (v : Value) (x : List UInt8) (l : List (List UInt8)) (w0 : World) (H0 : Heap)
 (hl : RdT H0 fS 1 v l) :
 Ct Tryz.prog w0 194 #[v, Str x] H0 (fun r H2 => r = .bool (decide (x ∈ l)) ∧ Nw H0 H2) := by
 refine Ct.enter (args := [v, Str x]) Tryz.func194 rfl rfl rfl ?_
 intro Q0 hret
 have hm0 : Nw H0 H0 := Mo.refl _ _
 replace hl := hl.bnd
 have hll := hl.len
 refine CW.s1 (fun hK1 => CW.region ?_)
 refine LR.a1 (LR.nil (hK1 _ _ ?_))
 refine CW.s1 (fun hK2 => CW.region ?_)
 refine LR.m1 ?_
 refine LR.m1 ?_
 refine LR.call rfl c'230 rfl (Wd.u rfl) rfl rfl (index_ct _ x l w0 _ hl.any) (fun v7 H7 r7 => ?_)
 obtain ⟨n7, rfl, hn7, hs7⟩ := r7
 replace hm0 := hm0.tr hs7
 refine LR.v1 (Y.geq rfl rfl rfl) ?_
 refine LR.a1 (LR.nil (hK2 _ _ ?_))
 refine CW.ret (hret .ret (.inr rfl) _ _ _ (res1 rfl rfl) ?_)
 exact ⟨bdec hn7.1, hm0⟩
theorem fits_ct (s : List UInt8) (v : Value) (l : List (List UInt8)) (mx_ : Int) (w0 : World) (H0 : Heap)
 (mx : MX mx_ H0) (bf_mx : BF (fun b => b = 0) H0.size) (hl : RdT H0 fS 1 v l) (hs : s.length ≤ 140737488355328) (hx : ∀ x ∈ l, x.length ≤ 140737488355328) :
 Ct Tryz.prog w0 132 #[Str s, v] H0 (fun r H2 => r = .int .i64 (fitsL s l) ∧ Nw H0 H2) := by
 refine Ct.enter (args := [Str s, v]) Tryz.func132 rfl rfl rfl ?_
 intro Q0 hret
 have hm0 : Nw H0 H0 := Mo.refl _ _
 replace hl := hl.bnd
 have hll := hl.len
 refine CW.s1 (fun hK1 => CW.region ?_)
 refine LR.a1 (LR.nil (hK1 _ _ ?_))
 refine CW.s2 (fun hK2 hE2 => CW.s1 (fun hK3 => CW.region ?_))
 refine LR.m1 ?_
 refine LR.call rfl c'48 rfl (Wd.u rfl) rfl rfl (chk_ct s mx_ w0 _ mx bf_mx (by omega)) (fun v9 H9 r9 => ?_)
 obtain ⟨rfl, hs9⟩ := r9
 replace hl := hl.nw hs9
 replace hm0 := hm0.tr hs9
 have hz1 := hs9.size
 refine LR.a1 (LR.nil (hK3 _ _ ?_))
 refine CW.s1 (fun hK4 => CW.region ?_)
 refine LR.m1 ?_
 refine LR.v1 (Y.neq rfl rfl rfl) (LR.nil (hK4 _ _ ?_))
 refine CW.condp rfl (fun c11 => ?_) (fun c11 => ?_)
 ·
  refine CW.s1 (fun hK5 => CW.region ?_)
  refine LR.m1 ?_
  refine LR.a1 (LR.nil (hK5 _ _ ?_))
  refine CW.ret (hE2 .ret nofun _ _ (hret .ret (.inr rfl) _ _ _ (res1 rfl rfl) ?_))
  exact ⟨by have hc : chk s ≠ 0 := (by omega); have hb0 : base s l = chk s := (by rw [base, if_pos hc]); rw [fitsL, hb0, if_pos hc], hm0⟩
 ·
  refine CW.skip (hK2 _ _ (CW.s2 (fun hK6 hE6 => CW.s1 (fun hK7 => CW.region ?_))))
  refine LR.m1 ?_
  refine LR.m1 ?_
  refine LR.call rfl c'194 rfl (Wd.u rfl) rfl rfl (contain_ct _ s l w0 _ hl.any) (fun v15 H15 r15 => ?_)
  obtain ⟨rfl, hs15⟩ := r15
  replace hl := hl.nw hs15
  replace hm0 := hm0.tr hs15
  have hz2 := hs15.size
  refine LR.nil (hK7 _ _ ?_)
  refine CW.condp rfl (fun c15 => ?_) (fun c15 => ?_)
  ·
   refine CW.s1 (fun hK8 => CW.region ?_)
   refine LR.a1 (LR.nil (hK8 _ _ ?_))
   refine CW.ret (hE6 .ret nofun _ _ (hret .ret (.inr rfl) _ _ _ (res1 rfl rfl) ?_))
   exact ⟨by have hb0 : base s l = 8 := (by rw [base, if_neg (by omega), if_pos c15]); rw [fitsL, hb0, if_pos (by decide)], hm0⟩
  ·
   refine CW.skip (hK6 _ _ (CW.s2 (fun hK9 hE9 => CW.s1 (fun hK10 => CW.region ?_))))
   refine LR.m1 ?_
   refine LR.v1 (Y.len hl rfl u'69 rfl) ?_
   refine LR.m1 (LR.nil (hK10 _ _ ?_))
   refine CW.block (fun _ _ hX11 hE11 => ?_)
   refine CW.loop (fun (j : (Nat)) => [(0, Str s), (16, v), (17, .int .i64 l.length), (18, .int .i64 j)])
    (fun (j : (Nat)) (H : Heap) => (j ≤ l.length) ∧ ((l.take j).any (adj s) = false) ∧ Nw H15 H)
    (fun (j : (Nat)) => l.length - j) 0 ⟨rfl, rfl, rfl, rfl, trivial⟩ ?_ ?_
   ·
    exact ⟨(by omega), rfl, Mo.refl _ _⟩
   intro j HL1 hI1 K12 hN12 hE12
   obtain ⟨hj, ha, hlm1⟩ := hI1
   replace hl := hl.nw hlm1
   replace hm0 := hm0.tr hlm1
   have hz3 := hlm1.size
   refine CW.s1 (fun hK13 => CW.region ?_)
   refine LR.v1 (Y.lss rfl rfl rfl) (LR.nil (hK13 _ _ ?_))
   refine CW.s2 (fun hK14 hE14 => ?_)
   refine CW.condp rfl (fun c19 => ?_) (fun c19 => ?_)
   ·
    refine CW.skip (hK14 _ _ (CW.s2 (fun hK15 hE15 => CW.block (fun _ hK16 _ hE16 => CW.s1 (fun hK17 => CW.region ?_)))))
    have hjl : j < l.length := by omega
    have hxj := hx l[j] (List.getElem_mem hjl)
    have hb0 : base s l = 0 := by rw [base, if_neg (by omega), if_neg c15]
    refine LR.e1 (g := fun ad => .pointer (some ad)) (Y.iF hl (j) rfl u'69 s'9 rfl rfl) fun ad20 pt20 => ?_
    refine LR.v1 (Y.load1 pt20.pt rfl a'9 rfl) ?_
    refine LR.a1 (LR.nil (hK17 _ _ ?_))
    refine CW.s1 (fun hK18 => CW.region ?_)
    refine LR.m1 ?_
    refine LR.m1 ?_
    refine LR.v1 (Y.sadd rfl rfl rfl (by simp; omega)) ?_
    refine LR.call rfl c'195 rfl (Wd.u rfl) rfl rfl (hasPre_ct l[j] (s ++ [47]) w0 _) (fun v25 H25 r25 => ?_)
    obtain ⟨rfl, hs25⟩ := r25
    replace hm0 := hm0.tr hs25
    replace hlm1 := hlm1.tr hs25
    have hz4 := hs25.size
    refine LR.m1 ?_
    refine LR.split (d := 26) rfl (fun g26 => ?_) (fun g26 => ?_)
    ·
     refine LR.g1 ?_
     refine LR.g1 ?_
     refine LR.g1 ?_
     refine LR.g1 ?_
     refine LR.v1 (Y.pick_t rfl rfl rfl) (LR.nil (hK18 _ _ ?_))
     refine CW.cond_t rfl ?_
     refine CW.s1 (fun hK19 => CW.region ?_)
     refine LR.a1 (LR.nil (hK19 _ _ ?_))
     refine CW.ret (hE16 .ret nofun (by simp) _ _ (hE15 .ret nofun _ _ (hE12 .ret nofun _ _ (hE11 .ret nofun (by simp) _ _ (hE9 .ret nofun _ _ (hret .ret (.inr rfl) _ _ _ (res1 rfl rfl) ?_))))))
     exact ⟨by rw [fitsL, hb0, if_neg (by decide), if_pos (any_at hjl (by unfold adj; first | (rw [g26]; rfl) | (rw [c31, Bool.or_true])))], hm0⟩
    ·
     refine LR.w1 (Y.move rfl rfl) ?_
     refine LR.w1 (Y.move rfl rfl) ?_
     refine LR.w1 (Y.sadd rfl rfl rfl (by simp; omega)) ?_
     refine LR.call rfl c'195 rfl (Wd.g rfl rfl rfl) rfl rfl (hasPre_ct s (l[j] ++ [47]) w0 _) (fun v30 H30 r30 => ?_)
     obtain ⟨rfl, hs30⟩ := r30
     replace hm0 := hm0.tr hs30
     replace hlm1 := hlm1.tr hs30
     have hz5 := hs30.size
     refine LR.v1 (Y.pick_f rfl rfl rfl) (LR.nil (hK18 _ _ ?_))
     refine CW.cond rfl (fun c31 => ?_) (fun c31 => ?_)
     ·
      refine CW.s1 (fun hK20 => CW.region ?_)
      refine LR.a1 (LR.nil (hK20 _ _ ?_))
      refine CW.ret (hE16 .ret nofun (by simp) _ _ (hE15 .ret nofun _ _ (hE12 .ret nofun _ _ (hE11 .ret nofun (by simp) _ _ (hE9 .ret nofun _ _ (hret .ret (.inr rfl) _ _ _ (res1 rfl rfl) ?_))))))
      exact ⟨by rw [fitsL, hb0, if_neg (by decide), if_pos (any_at hjl (by unfold adj; first | (rw [g26]; rfl) | (rw [c31, Bool.or_true])))], hm0⟩
     ·
      refine CW.skip (hK16 _ _ (hK15 _ _ (CW.region ?_)))
      refine LR.v1 (Y.addi rfl rfl rfl (by omega)) ?_
      refine LR.m1 (LR.nil ?_)
      refine QN.sub (hN12 (j + 1) _ ?_ ?_) ⟨rfl, rfl, (iv (by omega)), (iv (by omega)), trivial⟩
      · exact ⟨(by omega), any_take ha (by omega) (by unfold adj; rw [Bool.or_eq_false_iff]; exact ⟨g26, c31⟩), hlm1⟩
      · first | omega | (simp only; omega) | (simp; omega)
   ·
    refine CW.exit (hE14 (.exit 0) nofun _ _ (hE12 (.exit 0) nofun _ _ (hX11 _ _ ?_)))
    refine hK9 _ _ (CW.s1 (fun hK21 => CW.region ?_))
    refine LR.a1 (LR.nil (hK21 _ _ ?_))
    refine CW.ret (hret .ret (.inr rfl) _ _ _ (res1 rfl rfl) ?_)
    exact ⟨by have hb0 : base s l = 0 := (by rw [base, if_neg (by omega), if_neg c15]); rw [List.take_of_length_le (by omega)] at ha; rw [fitsL, hb0, if_neg (by decide), if_neg (by rw [ha]; decide)], hm0⟩
end Go.Proofs.YtfjmpninmdjcaaaGreatDoor.NamD

namespace Go.Proofs.YtfjmpninmdjcaaaGreatDoor.RefA
open E Go.RowKit NamA NamB NamC NamD
set_option maxRecDepth 20000
theorem l32 : ∀ {k : List UInt8}, k.length = 32 → ∃ b0 b1 b2 b3 b4 b5 b6 b7 b8 b9 b10 b11 b12 b13 b14 b15 b16 b17 b18 b19 b20 b21 b22 b23 b24 b25 b26 b27 b28 b29 b30 b31 : UInt8, k = [b0, b1, b2, b3, b4, b5, b6, b7, b8, b9, b10, b11, b12, b13, b14, b15, b16, b17, b18, b19, b20, b21, b22, b23, b24, b25, b26, b27, b28, b29, b30, b31] := by
 intro k h
 match k, h with
 | [b0, b1, b2, b3, b4, b5, b6, b7, b8, b9, b10, b11, b12, b13, b14, b15, b16, b17, b18, b19, b20, b21, b22, b23, b24, b25, b26, b27, b28, b29, b30, b31], _ => exact ⟨b0, b1, b2, b3, b4, b5, b6, b7, b8, b9, b10, b11, b12, b13, b14, b15, b16, b17, b18, b19, b20, b21, b22, b23, b24, b25, b26, b27, b28, b29, b30, b31, rfl⟩
theorem keyId : KeyA Tryz.prog 26 vA := keyI Tryz.underlying26 Tryz.underlying5 s'5 a'5
theorem splice_all2 {a b : List Value} (h : a.length = b.length) : splice a 0 b = b := by simp [splice, h]
abbrev n0 : SV := ⟨none, 0, 0⟩
structure TTd where
 d : Int
 i : Ide
def fTd (x : TTd) : List Value := .int .i64 x.d :: fA x.i
structure TSq where
 k : Int
 br : List UInt8
 og : Ide
 cu : Ide
 tv : SV
 td : List TTd
 dn : Int
 md : Int
 st : Bool
def fSq (x : TSq) : List Value := .int .i64 x.k :: Str x.br :: (fA x.og ++ (fA x.cu ++ [x.tv.v, .int .i64 x.dn, .int .i64 x.md, .bool x.st]))
structure TMv where
 n : List UInt8
 o : Ide
 w : Ide
 y : List UInt8
def fMv (x : TMv) : List Value := Str x.n :: (fA x.o ++ (fA x.w ++ [Str x.y]))
structure TMm where
 k : Ide
 v : SV
 d : List UInt8
def fMm (x : TMm) : List Value := fA x.k ++ [x.v.v]
structure TRf where
 n : List UInt8
 i : Ide
def fRf (x : TRf) : List Value := Str x.n :: fA x.i
structure TLn where
 o : Ide
 w : Ide
 y : List UInt8
def fLn (x : TLn) : List Value := fA x.o ++ (fA x.w ++ [Str x.y])
structure TLg where
 n : List UInt8
 v : SV
 l : List TLn
def fLg (x : TLg) : List Value := [Str x.n, x.v.v]
structure TTx where
 hh : Bool
 hd : List UInt8
 mv : SV
 ml : List TMv
 hs : Bool
 q : TSq
 ev : SV
 el : List TMm
def fTx (x : TTx) : List Value := .bool x.hh :: Str x.hd :: x.mv.v :: .bool x.hs :: (fSq x.q ++ [x.ev.v])
structure TSt where
 hd : List UInt8
 rv : SV
 rl : List TRf
 lv : SV
 ll : List TLg
 q : TSq
 ev : SV
 el : List TMm
def fSt (x : TSt) : List Value := Str x.hd :: x.rv.v :: x.lv.v :: (fSq x.q ++ [x.ev.v])
theorem fTd_len (x : TTd) : (fTd x).length = 33 := by simp [fTd, fA_len]
theorem fSq_len (x : TSq) : (fSq x).length = 70 := by simp [fSq, fA_len]
theorem fMv_len (x : TMv) : (fMv x).length = 66 := by simp [fMv, fA_len]
theorem fMm_len (x : TMm) : (fMm x).length = 33 := by simp [fMm, fA_len]
theorem fRf_len (x : TRf) : (fRf x).length = 33 := by simp [fRf, fA_len]
theorem fLn_len (x : TLn) : (fLn x).length = 65 := by simp [fLn, fA_len]
theorem fLg_len (x : TLg) : (fLg x).length = 2 := rfl
theorem fTx_len (x : TTx) : (fTx x).length = 75 := by simp [fTx, fSq_len]
theorem fSt_len (x : TSt) : (fSt x).length = 74 := by simp [fSt, fSq_len]
abbrev OneL (l : List Value) : Prop := ∀ u ∈ l, u.oneCell' = true
theorem OneL.nil : OneL [] := fun u h => by cases h
theorem OneL.cons {v : Value} {l : List Value} (h : v.oneCell' = true) (h2 : OneL l) : OneL (v :: l) := fun u hu => by
 rcases List.mem_cons.1 hu with rfl | hu
 · exact h
 · exact h2 u hu
theorem OneL.app {a b : List Value} (h : OneL a) (h2 : OneL b) : OneL (a ++ b) := fun u hu => (List.mem_append.1 hu).elim (h u) (h2 u)
theorem fTd_one (x : TTd) : OneL (fTd x) := .cons rfl (fA_one _)
theorem fSq_one (x : TSq) : OneL (fSq x) := .cons rfl (.cons rfl (.app (fA_one _) (.app (fA_one _) (.cons rfl (.cons rfl (.cons rfl (.cons rfl .nil)))))))
theorem fMv_one (x : TMv) : OneL (fMv x) := .cons rfl (.app (fA_one _) (.app (fA_one _) (.cons rfl .nil)))
theorem fMm_one (x : TMm) : OneL (fMm x) := .app (fA_one _) (.cons rfl .nil)
theorem fRf_one (x : TRf) : OneL (fRf x) := .cons rfl (fA_one _)
theorem fLn_one (x : TLn) : OneL (fLn x) := .app (fA_one _) (.app (fA_one _) (.cons rfl .nil))
theorem fLg_one (x : TLg) : OneL (fLg x) := .cons rfl (.cons rfl .nil)
theorem fTx_one (x : TTx) : OneL (fTx x) := .cons rfl (.cons rfl (.cons rfl (.cons rfl (.app (fSq_one _) (.cons rfl .nil)))))
theorem fSt_one (x : TSt) : OneL (fSt x) := .cons rfl (.cons rfl (.cons rfl (.app (fSq_one _) (.cons rfl .nil))))
abbrev sqV (x : TSq) : Value := .agg (fSq x).toArray
abbrev mvV (x : TMv) : Value := .agg (fMv x).toArray
abbrev mmV (x : TMm) : Value := .agg (fMm x).toArray
abbrev txV (x : TTx) : Value := .agg (fTx x).toArray
abbrev stV (x : TSt) : Value := .agg (fSt x).toArray
theorem front_of {a b : List Value} {n : Nat} (h : a.length = n) : (a ++ b).take n = a := List.take_left' h
theorem back_of {a b : List Value} {n : Nat} (h : a.length = n) : (a ++ b).drop n = b := List.drop_left' h
def fSqe (x : TSq) : List Value := [x.tv.v, .int .i64 x.dn, .int .i64 x.md, .bool x.st]
theorem fSq_og (x : TSq) : ((fSq x).drop 2).take 32 = fA x.og := front_of (fA_len _)
theorem fSq_34 (x : TSq) : (fSq x).drop 34 = fA x.cu ++ fSqe x := by
 rw [show (34 : Nat) = 2 + 32 from rfl, ← List.drop_drop]; exact back_of (fA_len _)
theorem fSq_cu (x : TSq) : ((fSq x).drop 34).take 32 = fA x.cu := by rw [fSq_34]; exact front_of (fA_len _)
theorem fSq_66 (x : TSq) : (fSq x).drop 66 = fSqe x := by
 rw [show (66 : Nat) = 34 + 32 from rfl, ← List.drop_drop, fSq_34]; exact back_of (fA_len _)
theorem fMv_o (x : TMv) : ((fMv x).drop 1).take 32 = fA x.o := front_of (fA_len _)
theorem fMv_33 (x : TMv) : (fMv x).drop 33 = fA x.w ++ [Str x.y] := by
 rw [show (33 : Nat) = 1 + 32 from rfl, ← List.drop_drop]; exact back_of (fA_len _)
theorem fMv_w (x : TMv) : ((fMv x).drop 33).take 32 = fA x.w := by rw [fMv_33]; exact front_of (fA_len _)
theorem fMv_65 (x : TMv) : (fMv x).drop 65 = [Str x.y] := by
 rw [show (65 : Nat) = 33 + 32 from rfl, ← List.drop_drop, fMv_33]; exact back_of (fA_len _)
theorem fMm_k (x : TMm) : ((fMm x).drop 0).take 32 = fA x.k := front_of (fA_len _)
theorem fMm_32 (x : TMm) : (fMm x).drop 32 = [x.v.v] := back_of (fA_len _)
theorem fLn_32 (x : TLn) : (fLn x).drop 32 = fA x.w ++ [Str x.y] := back_of (fA_len _)
theorem fLn_64 (x : TLn) : (fLn x).drop 64 = [Str x.y] := by
 rw [show (64 : Nat) = 32 + 32 from rfl, ← List.drop_drop, fLn_32]; exact back_of (fA_len _)
theorem fTd_i (x : TTd) : ((fTd x).drop 1).take 32 = fA x.i := List.take_of_length_le (by rw [show (fTd x).drop 1 = fA x.i from rfl, fA_len]; exact Nat.le_refl _)
theorem fRf_i (x : TRf) : ((fRf x).drop 1).take 32 = fA x.i := List.take_of_length_le (by rw [show (fRf x).drop 1 = fA x.i from rfl, fA_len]; exact Nat.le_refl _)
theorem fTx_q (x : TTx) : ((fTx x).drop 4).take 70 = fSq x.q := front_of (fSq_len _)
theorem fTx_74 (x : TTx) : (fTx x).drop 74 = [x.ev.v] := by
 rw [show (74 : Nat) = 4 + 70 from rfl, ← List.drop_drop]; exact back_of (fSq_len _)
theorem fSt_q (x : TSt) : ((fSt x).drop 3).take 70 = fSq x.q := front_of (fSq_len _)
theorem fSt_73 (x : TSt) : (fSt x).drop 73 = [x.ev.v] := by
 rw [show (73 : Nat) = 3 + 70 from rfl, ← List.drop_drop]; exact back_of (fSq_len _)
section
variable {H : Heap} {ad : Addr}
theorem _root_.Go.Proofs.YtfjmpninmdjcaaaGreatDoor.E.Pt.sq66 {x : TSq} (h : Pt H ad (fSq x)) : Pt H (ad.add 66) (fSqe x) := by have := h.drop 66; rwa [fSq_66] at this
theorem _root_.Go.Proofs.YtfjmpninmdjcaaaGreatDoor.E.Pt.sq67 {x : TSq} (h : Pt H ad (fSq x)) : Pt H (ad.add 67) [.int .i64 x.dn, .int .i64 x.md, .bool x.st] := by
 have := h.sq66.drop 1
 rwa [show (ad.add 66).add 1 = ad.add 67 from by cases ad; rfl] at this
theorem _root_.Go.Proofs.YtfjmpninmdjcaaaGreatDoor.E.Pt.sq68 {x : TSq} (h : Pt H ad (fSq x)) : Pt H (ad.add 68) [.int .i64 x.md, .bool x.st] := by
 have := h.sq66.drop 2
 rwa [show (ad.add 66).add 2 = ad.add 68 from by cases ad; rfl] at this
theorem _root_.Go.Proofs.YtfjmpninmdjcaaaGreatDoor.E.Pt.sq69 {x : TSq} (h : Pt H ad (fSq x)) : Pt H (ad.add 69) [.bool x.st] := by
 have := h.sq66.drop 3
 rwa [show (ad.add 66).add 3 = ad.add 69 from by cases ad; rfl] at this
theorem _root_.Go.Proofs.YtfjmpninmdjcaaaGreatDoor.E.Pt.mv65 {x : TMv} (h : Pt H ad (fMv x)) : Pt H (ad.add 65) [Str x.y] := by have := h.drop 65; rwa [fMv_65] at this
theorem _root_.Go.Proofs.YtfjmpninmdjcaaaGreatDoor.E.Pt.mm32 {x : TMm} (h : Pt H ad (fMm x)) : Pt H (ad.add 32) [x.v.v] := by have := h.drop 32; rwa [fMm_32] at this
theorem _root_.Go.Proofs.YtfjmpninmdjcaaaGreatDoor.E.Pt.ln64 {x : TLn} (h : Pt H ad (fLn x)) : Pt H (ad.add 64) [Str x.y] := by have := h.drop 64; rwa [fLn_64] at this
theorem _root_.Go.Proofs.YtfjmpninmdjcaaaGreatDoor.E.Pt.tx74 {x : TTx} (h : Pt H ad (fTx x)) : Pt H (ad.add 74) [x.ev.v] := by have := h.drop 74; rwa [fTx_74] at this
theorem _root_.Go.Proofs.YtfjmpninmdjcaaaGreatDoor.E.Pt.st73 {x : TSt} (h : Pt H ad (fSt x)) : Pt H (ad.add 73) [x.ev.v] := by have := h.drop 73; rwa [fSt_73] at this
end
def zSq : TSq := ⟨0, [], Zid, Zid, n0, [], 0, 0, false⟩
def zSt : TSt := ⟨[], n0, [], n0, [], zSq, n0, []⟩
structure TxR (F : Nat → Prop) (H : Heap) (t : TTx) : Prop where
 m : Rd F H fMv 66 t.mv.v t.ml
 q : Rd F H fTd 33 t.q.tv.v t.q.td
 e : Rd F H fMm 33 t.ev.v t.el
 d : ∀ y ∈ t.el, Rd F H fB 1 y.v.v y.d
structure StR (F : Nat → Prop) (H : Heap) (s : TSt) : Prop where
 r : Rd F H fRf 33 s.rv.v s.rl
 g : Rd F H fLg 2 s.lv.v s.ll
 n : ∀ y ∈ s.ll, Rd F H fLn 65 y.v.v y.l
 q : Rd F H fTd 33 s.q.tv.v s.q.td
 e : Rd F H fMm 33 s.ev.v s.el
 d : ∀ y ∈ s.el, Rd F H fB 1 y.v.v y.d
section
variable {F G : Nat → Prop} {H H' : Heap} {t : TTx} {s : TSt} {ks : List Nat} {h : Nat}
theorem TxR.nw (x : TxR F H t) (w : Nw H H') : TxR F H' t := ⟨x.m.nw w, x.q.nw w, x.e.nw w, fun y hy => (x.d y hy).nw w⟩
theorem TxR.upL (x : TxR F H t) (w : Mo (Ms ks) H H') (d : DFL F ks) : TxR F H' t := ⟨x.m.upL w d, x.q.upL w d, x.e.upL w d, fun y hy => (x.d y hy).upL w d⟩
theorem StR.nw (x : StR F H s) (w : Nw H H') : StR F H' s := ⟨x.r.nw w, x.g.nw w, fun y hy => (x.n y hy).nw w, x.q.nw w, x.e.nw w, fun y hy => (x.d y hy).nw w⟩
theorem StR.upL (x : StR F H s) (w : Mo (Ms ks) H H') (d : DFL F ks) : StR F H' s := ⟨x.r.upL w d, x.g.upL w d, fun y hy => (x.n y hy).upL w d, x.q.upL w d, x.e.upL w d, fun y hy => (x.d y hy).upL w d⟩
theorem StR.imp (x : StR F H s) (d : ∀ b, b < H.size → F b → G b) : StR G H s := ⟨x.r.imp d, x.g.imp d, fun y hy => (x.n y hy).imp d, x.q.imp d, x.e.imp d, fun y hy => (x.d y hy).imp d⟩
theorem StR.bnd (x : StR F H s) : StR (fun b => F b ∧ b < H.size) H s := x.imp (fun b hb h => ⟨h, hb⟩)
theorem StR.bf (x : StR (fun b => G b ∧ b < h) H s) : BF (fun b => G b ∧ b < h) h := fun b e => e.2
end
def mustL (b : Bool) (e : Int) : Int := if b = true then 0 else e
def firstL : List Int → Int
 | [] => 0
 | e :: l => if e ≠ 0 then e else firstL l
theorem first_at {l : List Int} {j : Nat} (h : ∀ x ∈ l.take j, x = 0) (hj : j < l.length) (h0 : l[j] ≠ 0) : firstL l = l[j] := by
 induction l generalizing j with
 | nil => simp at hj
 | cons e l ih =>
   cases j with
   | zero => simp only [List.getElem_cons_zero] at h0 ⊢; rw [firstL, if_pos h0]
   | succ j =>
     have he : e = 0 := h e (by simp)
     rw [firstL, if_neg (by simpa using he)]
     exact ih (fun x hx => h x (by simp [hx])) (by simpa using hj) (by simpa using h0)
theorem first_no : ∀ {l : List Int}, (∀ x ∈ l, x = 0) → firstL l = 0
 | [], _ => rfl
 | e :: l, h => by rw [firstL, if_neg (by simpa using h e (by simp)), first_no (fun x hx => h x (by simp [hx]))]
theorem z_step {l : List Int} {j : Nat} (h : ∀ x ∈ l.take j, x = 0) (hj : j < l.length) (h0 : l[j] = 0) : ∀ x ∈ l.take (j + 1), x = 0 := by
 intro x hx
 rw [List.take_succ_eq_append_getElem hj] at hx
 rcases List.mem_append.1 hx with hx | hx
 · exact h x hx
 · rw [List.mem_singleton] at hx; rw [hx]; exact h0
theorem rmust_ct (b : Bool) (e : Int) (w0 : World) (H0 : Heap)
 :
 Ct Tryz.prog w0 46 #[.bool b, .int .i64 e] H0 (fun r H2 => r = .int .i64 (mustL b e) ∧ Nw H0 H2) := by
 refine Ct.enter (args := [.bool b, .int .i64 e]) Tryz.func46 rfl rfl rfl ?_
 intro Q0 hret
 have hm0 : Nw H0 H0 := Mo.refl _ _
 refine CW.s1 (fun hK1 => CW.region ?_)
 refine LR.a1 (LR.nil (hK1 _ _ ?_))
 refine CW.s2 (fun hK2 hE2 => CW.s1 (fun hK3 => CW.region ?_))
 refine LR.m1 (LR.nil (hK3 _ _ ?_))
 refine CW.cond rfl (fun c5 => ?_) (fun c5 => ?_)
 ·
  refine CW.s1 (fun hK4 => CW.region ?_)
  refine LR.a1 (LR.nil (hK4 _ _ ?_))
  refine CW.ret (hE2 .ret nofun _ _ (hret .ret (.inr rfl) _ _ _ (res1 rfl rfl) ?_))
  exact ⟨by first | (rw [mustL, if_pos (by assumption)]) | (rw [mustL, if_neg (by simp_all)]), hm0⟩
 ·
  refine CW.skip (hK2 _ _ (CW.s1 (fun hK5 => CW.region ?_)))
  refine LR.m1 ?_
  refine LR.a1 (LR.nil (hK5 _ _ ?_))
  refine CW.ret (hret .ret (.inr rfl) _ _ _ (res1 rfl rfl) ?_)
  exact ⟨by first | (rw [mustL, if_pos (by assumption)]) | (rw [mustL, if_neg (by simp_all)]), hm0⟩
theorem rfirst_ct (v : Value) (l : List Int) (w0 : World) (H0 : Heap)
 (hl : RdT H0 fI 1 v l) :
 Ct Tryz.prog w0 47 #[v] H0 (fun r H2 => r = .int .i64 (firstL l) ∧ Nw H0 H2) := by
 refine Ct.enter (args := [v]) Tryz.func47 rfl rfl rfl ?_
 intro Q0 hret
 have hm0 : Nw H0 H0 := Mo.refl _ _
 replace hl := hl.bnd
 have hll := hl.len
 refine CW.s1 (fun hK1 => CW.region ?_)
 refine LR.a1 (LR.nil (hK1 _ _ ?_))
 refine CW.s2 (fun hK2 hE2 => CW.s1 (fun hK3 => CW.region ?_))
 refine LR.m1 ?_
 refine LR.v1 (Y.len hl rfl u'244 rfl) ?_
 refine LR.m1 (LR.nil (hK3 _ _ ?_))
 refine CW.block (fun _ _ hX4 hE4 => ?_)
 refine CW.loop (fun (j : (Nat)) => [(5, v), (6, .int .i64 l.length), (7, .int .i64 j)])
  (fun (j : (Nat)) (H : Heap) => (j ≤ l.length) ∧ (∀ x ∈ l.take j, x = 0) ∧ Nw H0 H)
  (fun (j : (Nat)) => l.length - j) 0 ⟨rfl, rfl, rfl, trivial⟩ ?_ ?_
 ·
  exact ⟨(by omega), (fun x h => by simp at h), Mo.refl _ _⟩
 intro j HL1 hI1 K5 hN5 hE5
 obtain ⟨hj, ha, hlm1⟩ := hI1
 replace hl := hl.nw hlm1
 replace hm0 := hm0.tr hlm1
 have hz1 := hlm1.size
 refine CW.s1 (fun hK6 => CW.region ?_)
 refine LR.v1 (Y.lss rfl rfl rfl) (LR.nil (hK6 _ _ ?_))
 refine CW.s2 (fun hK7 hE7 => ?_)
 refine CW.condp rfl (fun c8 => ?_) (fun c8 => ?_)
 ·
  refine CW.skip (hK7 _ _ (CW.s2 (fun hK8 hE8 => CW.block (fun _ hK9 _ hE9 => CW.s1 (fun hK10 => CW.region ?_)))))
  refine LR.e1 (g := fun ad => .pointer (some ad)) (Y.iF hl (j) rfl u'244 s'35 rfl rfl) fun ad9 pt9 => ?_
  refine LR.v1 (Y.load1 pt9.pt rfl a'35 rfl) ?_
  refine LR.a1 (LR.nil (hK10 _ _ ?_))
  refine CW.s1 (fun hK11 => CW.region ?_)
  refine LR.m1 ?_
  refine LR.v1 (Y.neq rfl rfl rfl) (LR.nil (hK11 _ _ ?_))
  refine CW.condp rfl (fun c12 => ?_) (fun c12 => ?_)
  ·
   refine CW.s1 (fun hK12 => CW.region ?_)
   refine LR.m1 ?_
   refine LR.a1 (LR.nil (hK12 _ _ ?_))
   refine CW.ret (hE9 .ret nofun (by simp) _ _ (hE8 .ret nofun _ _ (hE5 .ret nofun _ _ (hE4 .ret nofun (by simp) _ _ (hE2 .ret nofun _ _ (hret .ret (.inr rfl) _ _ _ (res1 rfl rfl) ?_))))))
   exact ⟨by rw [first_at ha (by omega) c12], hm0⟩
  ·
   refine CW.skip (hK9 _ _ (hK8 _ _ (CW.region ?_)))
   refine LR.v1 (Y.addi rfl rfl rfl (by omega)) ?_
   refine LR.m1 (LR.nil ?_)
   refine QN.sub (hN5 (j + 1) _ ?_ ?_) ⟨rfl, (iv (by omega)), (iv (by omega)), trivial⟩
   · exact ⟨(by omega), z_step ha (by omega) (by simpa using c12), hlm1⟩
   · first | omega | (simp only; omega) | (simp; omega)
 ·
  refine CW.exit (hE7 (.exit 0) nofun _ _ (hE5 (.exit 0) nofun _ _ (hX4 _ _ ?_)))
  refine hK2 _ _ (CW.s1 (fun hK13 => CW.region ?_))
  refine LR.a1 (LR.nil (hK13 _ _ ?_))
  refine CW.ret (hret .ret (.inr rfl) _ _ _ (res1 rfl rfl) ?_)
  exact ⟨by rw [List.take_of_length_le (by omega)] at ha; rw [first_no ha], hm0⟩
theorem rnone_ct (i : Ide) (w0 : World) (H0 : Heap)
 :
 Ct Tryz.prog w0 55 #[vA i] H0 (fun r H2 => r = .bool (decide (i = Zid)) ∧ Nw H0 H2) := by
 refine Ct.enter (args := [vA i]) Tryz.func55 rfl rfl rfl ?_
 intro Q0 hret
 have hm0 : Nw H0 H0 := Mo.refl _ _
 refine CW.s1 (fun hK1 => CW.region ?_)
 refine LR.z1 (Z.boxv rfl rfl) fun v1 H1 r1 => ?_
 obtain ⟨rfl, hb, hs1, ob1, hH1⟩ := r1
 replace hm0 := hm0.tr hs1
 replace hb : Var 26 H1 H0.size (fA i) := hb
 refine LR.a1 (LR.nil (hK1 _ _ ?_))
 refine CW.s1 (fun hK2 => CW.region ?_)
 refine LR.v1 (Y.loadN hb.pt rfl a'26 s'26 (fA_len _) rfl) ?_
 refine LR.v1 (Y.build (v := vA Zid) rfl rfl (by intro w; kernel_rfl)) ?_
 refine LR.v1 (Y.aeql rfl Tryz.eqGuardType26 (fun w => run_equalIn_id 9998 Tryz.underlying26 Tryz.underlying5 s'5 a'5 (i.2) (Zid.2) w) rfl rfl) ?_
 refine LR.a1 (LR.nil (hK2 _ _ ?_))
 refine CW.ret (hret .ret (.inr rfl) _ _ _ (res1 rfl rfl) ?_)
 exact ⟨bdec ⟨fun h => Subtype.ext h, fun h => by rw [h]⟩, hm0⟩
end Go.Proofs.YtfjmpninmdjcaaaGreatDoor.RefA

namespace Go.Proofs.YtfjmpninmdjcaaaGreatDoor.E
section
variable {F : Nat → Prop} {a k k2 h h2 m : Nat} {K K0 K2 K3 ks : List Nat}
def DKL (K ks : List Nat) : Prop := ∀ k ∈ K, DL k ks
def NxK (K : List Nat) (h : Nat) (K2 : List Nat) : Prop := ∀ k ∈ K2, k = 0 ∨ k ∈ K ∨ h < k
def BK (K : List Nat) (h : Nat) : Prop := ∀ k ∈ K, k ≤ h
theorem DL.zK : DL 0 K := fun k _ => Dj.z2
theorem DL.app (d : DL a K) (e : DL a ks) : DL a (K ++ ks) := fun k hk => (List.mem_append.1 hk).elim (d k) (e k)
theorem DFL.app (d : DFL F K) (e : DFL F ks) : DFL F (K ++ ks) := fun k hk => (List.mem_append.1 hk).elim (d k) (e k)
theorem DKL.nil : DKL K [] := fun k _ => DL.nil
theorem DKL.cons (d : DL m K) (e : DKL K ks) : DKL K (m :: ks) := fun k hk => DL.cons (d k hk).symm (e k hk)
theorem MIL.app {js : List Nat} (d : MIL ks h K) (e : MIL ks h js) : MIL ks h (K ++ js) := fun k hk => (List.mem_append.1 hk).elim (d k) (e k)
theorem DL.newK (b : BK K h) : DL (h + 1) K := fun k hk => (Dj.new (b k hk)).symm
theorem DL.appK (d : DL a K) (ha : a ≤ h) (x : NxK K h K2) : DL a K2 := fun k hk => by
 rcases x k hk with e | e | e
 · subst e; exact Dj.z
 · exact d k e
 · intro c h1 h2; omega
theorem DFL.appK (d : DFL F K) (hb : BF F h) (x : NxK K h K2) : DFL F K2 := fun k hk b hF he => by
 have := hb b hF
 rcases x k hk with e | e | e
 · omega
 · exact d k e b hF he
 · omega
theorem DL.app2 (d : DL k K) (b : BK K h) (x : Nx k h k2) : DL k2 K := fun j hj => by
 rcases x with e | e | e
 · subst e; exact Dj.z2
 · subst e; exact d j hj
 · have := b j hj; intro c h1 h2; omega
theorem NxK.refl (K : List Nat) (h : Nat) : NxK K h K := fun k hk => .inr (.inl hk)
theorem NxK.tr (x : NxK K h K2) (y : NxK K2 h2 K3) (hh : h ≤ h2) : NxK K h K3 := fun k hk => by
 rcases y k hk with e | e | e
 · exact .inl e
 · exact x k e
 · exact .inr (.inr (by omega))
theorem NxK.cons (d : Nx 0 h a) (x : NxK K h K2) : NxK K h (a :: K2) := fun k hk => by
 rcases List.mem_cons.1 hk with e | e
 · subst e; unfold Nx at d; omega
 · exact x k e
def KM (K : List Nat) (k : Nat) : Prop := ∀ c, c + 1 = k → c + 1 ∈ K
theorem KM.of (h : k ∈ K) : KM K k := fun c e => by rw [e]; exact h
theorem KM.or (h : KM K k) : k = 0 ∨ k ∈ K := by
 cases k with
 | zero => exact .inl rfl
 | succ c => exact .inr (h c rfl)
theorem DL.at (d : DL a K) (m : KM K k) : Dj a k := by
 rcases m.or with e | e
 · subst e; exact Dj.z
 · exact d k e
theorem DFL.at (d : DFL F K) (m : KM K k) : DF F k := by
 rcases m.or with e | e
 · subst e; exact DF.z
 · exact d k e
theorem MIL.at (d : MIL ks h K) (m : KM K k) : MI ks h k := by
 rcases m.or with e | e
 · subst e; exact MI.z
 · exact d k e
theorem NxK.app {k0 : Nat} (x : NxK K h K2) (hm : KM K2 k0) (y : Nx k0 h2 a) (hh : h ≤ h2) : NxK K h (a :: K2) := fun k hk => by
 rcases List.mem_cons.1 hk with e | e
 · subst e
   rcases y with y | y | y
   · exact .inl y
   · rcases hm.or with e2 | e2
     · exact .inl (y.trans e2)
     · rw [y]; exact x k0 e2
   · exact .inr (.inr (by omega))
 · exact x k e
theorem DL.nxK (b : BK K h) (x : Nx 0 h a) : DL a K := fun k hk => by
 have := b k hk
 intro c h1 h2
 unfold Nx at x; omega
theorem MIL.ofK (x : NxK K h K2) (hk : ∀ k ∈ K, k ∈ ks) : MIL ks h K2 := fun k hk2 b hb e => by
 rcases x k hk2 with e2 | e2 | e2
 · omega
 · unfold Ms; rw [e]; exact hk k e2
 · omega
theorem MIL.ofK0 (x : NxK [] h K2) : MIL ks h K2 := fun k hk2 b hb e => by
 rcases x k hk2 with e2 | e2 | e2
 · omega
 · cases e2
 · omega
theorem DFL.above {n : Nat} (hF : ∀ b, F b → n ≤ b) (hk : BK K n) : DFL F K := fun k hk2 b h1 e => by have := hF b h1; have := hk k hk2; omega
end
section
open Go.MapKept
variable {P : Program} {w0 : World} {n : Nat} {l : FL} {H : Heap} {o : Oper} {κ β : Type} [DecidableEq κ] {fk : κ → Value} {fv : β → Value} {b : Nat} {m : List (κ × β)} {d : TypeDesc}
theorem Z.delS {t u kt et : TypeId} {x i : Operand} {k : κ} (h : Mp H fk fv b m) (hfk : KeyFn d fk) (ho : o.op = .call { callee := .builtin .delete, args := #[x, i], argTypes := #[t, u] }) (hm : ∀ w, (underlying t).run P w = .ok (.map kt et) w) (hk : P.underlying kt = some d)
 (hx : opv l x = some (.map (some b))) (hi : opv l i = some (fk k)) : Z P w0 n l H o (fun r H' => r = .tuple #[] ∧ Mp H' fk fv b (mdel m k) ∧ Mo (fun c => c = b) H H') := by
 intro ac w hf ha
 obtain ⟨r, es, clock, hv, h2, h3, h4, h5⟩ := h.mo.ex
 obtain rfl := h2
 have h3' : w.heap[r]? = some (.map es clock) := by rw [ha.heap]; exact h3
 have hlt := (Array.getElem?_eq_some_iff.1 h3).1
 have hget : ∀ ob, (H.setIfInBounds r ob)[r]? = some ob := fun ob => by simp [hlt]
 rcases find_entries (k := k) hfk es.toList m 0 h5 with ⟨q1, q2, q3⟩ | ⟨j, e', b', q1, q2, q3, q4, q5⟩
 · refine ⟨_, H.setIfInBounds r (.map es clock), { w with heap := H.setIfInBounds r (.map es clock) }, ?_, ha.set, rfl, ⟨⟨r, _, _, rfl, rfl, hget _, h4, ?_⟩⟩, mo_set _⟩
   · simp [execOp, ho, hf.eval hx, hf.eval hi, resolve, invoke, builtin, Builtin.delete_, hm, MapKept.run_getObj_map h3', MapKept.run_checkKey hk (hfk.key k), MapKept.run_findKey hk q2, MapKept.run_setObj_map _ h3', ha.heap]
   · rw [h5]
     congr 1
     unfold mdel
     exact (List.filter_eq_self.2 (fun p hp => by simpa using mget_none q1 p hp)).symm
 · have hj : es[j]? = some e' := by simpa using q3
   refine ⟨_, H.setIfInBounds r (.map (es.eraseIdxIfInBounds j) clock), { w with heap := H.setIfInBounds r (.map (es.eraseIdxIfInBounds j) clock) }, ?_, ha.set, rfl, ⟨⟨r, _, _, rfl, rfl, hget _, stamped_erase h4 _, ?_⟩⟩, mo_set _⟩
   · simp [execOp, ho, hf.eval hx, hf.eval hi, resolve, invoke, builtin, Builtin.delete_, hm, MapKept.run_getObj_map h3', MapKept.run_checkKey hk (hfk.key k), MapKept.run_findKey hk q2, MapKept.run_setObj_map _ h3', ha.heap]
   · have hjl : j < es.size := (Array.getElem?_eq_some_iff.1 hj).1
     rw [Array.eraseIdxIfInBounds, dif_pos hjl, Array.toList_eraseIdx]
     exact erase_entries hfk.inj es.toList m j e' h5 h4.2.2 q3 q4
end
end Go.Proofs.YtfjmpninmdjcaaaGreatDoor.E

namespace Go.Proofs.YtfjmpninmdjcaaaGreatDoor.E
def Sb (l l3 : FL) : Prop := ∀ t v, lk l t = some v → lk l3 t = some v
theorem Sb.c {l l3 : FL} {s : Nat} {u : Value} (hn : lk l s = none) (h : Sb l l3) : Sb l ((s, u) :: l3) := fun t v e => by
 simp only [lk]
 cases hb : Nat.beq s t with
 | true => have := Nat.eq_of_beq_eq_true hb; subst this; rw [hn] at e; cases e
 | false => exact h t v e
theorem Sb.b {l : FL} {s : Nat} {u v : Value} (hc : lk l s = some v) (hv : u = v) : Sb l ((s, u) :: l) := fun t w e => by
 simp only [lk]
 cases hb : Nat.beq s t with
 | true => have := Nat.eq_of_beq_eq_true hb; subst this; rw [hc] at e; subst hv; exact e
 | false => exact e
section
variable {P : Program} {w0 : World} {Q : Exit → Act → World → Prop} {n k : Nat} {dn : List Nat} {l : FL} {H : Heap} {ops : Array Oper} {SH : Heap → Prop} {X : List Nat}
theorem LH.join {d : Nat} {v : Value} (k2 : Nat) (dn2 : List Nat) (b : (∀ l3, lk l3 d = some v → Sb l l3 → LH P w0 ops Q SH X n k2 dn2 l3 H) → LH P w0 ops Q SH X n k dn l H) (h : LH P w0 ops Q SH X n k2 dn2 ((d, v) :: l) H) : LH P w0 ops Q SH X n k dn l H :=
 b (fun l3 hd hs a w hf ha => h a w ⟨hf.defers, hf.size, fun t u e => by
  simp only [lk] at e
  cases hb : Nat.beq d t with
  | true => have := Nat.eq_of_beq_eq_true hb; subst this; simp only [hb] at e; exact hf.get _ _ (by rw [hd]; exact e)
  | false => simp only [hb] at e; exact hf.get _ _ (hs _ _ e)⟩ ha)
end
end Go.Proofs.YtfjmpninmdjcaaaGreatDoor.E

namespace Go.Proofs.YtfjmpninmdjcaaaGreatDoor.RefB
open E Go.RowKit NamA NamB NamC NamD RefA
set_option maxRecDepth 20000
set_option maxRecDepth 100000 in
theorem inf244 : Inf Tryz.prog 244 35 1 8 := ⟨Tryz.underlying244, _, _, rfl, rfl, rfl, rfl, rfl⟩
def zRf : TRf := ⟨[], Zid⟩
def zMm : TMm := ⟨Zid, n0, []⟩
def tabL (l : List TRf) : List (List UInt8 × Ide) := l.foldl (fun m r => mput m r.n r.i) []
theorem tabL_snoc (l : List TRf) (x : TRf) : tabL (l ++ [x]) = mput (tabL l) x.n x.i := by unfold tabL; rw [List.foldl_append]; rfl
def movL (m : List (List UInt8 × Ide)) (x : TMv) : List (List UInt8 × Ide) := if x.w = Zid then mdel m x.n else mput m x.n x.w
def argB (x : TSq) : Bool := decide (¬ x.og = Zid ∧ ¬ x.cu = Zid ∧ 0 ≤ x.dn ∧ x.dn ≤ x.td.length ∧ 0 ≤ x.md ∧ x.md ≤ x.dn ∧ ¬ (x.st = true ∧ x.dn = x.td.length))
def stepE (t : TTd) : Int := if ¬ (1 ≤ t.d ∧ t.d ≤ 3) then 3 else if t.i = Zid then 1 else 0
def todoE : List TTd → Int
 | [] => 0
 | t :: l => if stepE t ≠ 0 then stepE t else todoE l
def seqE (x : TSq) : Int := if ¬ (x.k = 1 ∨ x.k = 2) then 3 else if chk x.br ≠ 0 then 7 else if argB x = false then 1 else if 100 < x.td.length then 4 else todoE x.td
theorem todoE_snoc : ∀ (l : List TTd) (t : TTd), todoE (l ++ [t]) = if todoE l ≠ 0 then todoE l else stepE t
 | [], t => by by_cases h : stepE t = 0 <;> simp [todoE, h]
 | a :: l, t => by
   rw [List.cons_append, todoE, todoE, todoE_snoc l t]
   by_cases h : stepE a ≠ 0
   · rw [if_pos h, if_pos h, if_pos h]
   · rw [if_neg h, if_neg h]
theorem todoE_take {l : List TTd} {i : Nat} (hi : i < l.length) : todoE (l.take (i + 1)) = if todoE (l.take i) ≠ 0 then todoE (l.take i) else stepE l[i] := by
 rw [List.take_succ_eq_append_getElem hi, todoE_snoc]
theorem step_first (e : Int) (t : TTd) : firstL [e, mustL (decide (1 ≤ t.d ∧ t.d ≤ 3)) 3, mustL (decide (¬ t.i = Zid)) 1] = if e ≠ 0 then e else stepE t := by
 unfold stepE
 simp only [firstL, mustL, decide_eq_true_eq]
 by_cases h0 : e ≠ 0
 · rw [if_pos h0, if_pos h0]
 · rw [if_neg h0, if_neg h0]
   by_cases h1 : 1 ≤ t.d ∧ t.d ≤ 3 <;> by_cases h2 : t.i = Zid <;> simp [h1, h2]
def headE (x : TSq) : Int := firstL [mustL (decide (x.k = 1 ∨ x.k = 2)) 3, chk x.br, mustL (argB x) 1, mustL (decide (x.td.length ≤ 100)) 4]
theorem seqE_head (x : TSq) : seqE x = if headE x ≠ 0 then headE x else todoE x.td := by
 unfold seqE headE
 simp only [firstL, mustL, decide_eq_true_eq]
 rcases chk_or x.br with hc | hc
 · by_cases h1 : x.k = 1 ∨ x.k = 2 <;> cases h2 : argB x <;> by_cases h3 : x.td.length ≤ 100 <;> simp [h1, h3, hc] <;> omega
 · by_cases h1 : x.k = 1 ∨ x.k = 2 <;> cases h2 : argB x <;> by_cases h3 : x.td.length ≤ 100 <;> simp [h1, h3, hc]
theorem rmust_to {b : Bool} (q : Bool) (e : Int) (h : b = q) (w0 : World) (H0 : Heap) : Ct Tryz.prog w0 46 #[.bool b, .int .i64 e] H0 (fun r H2 => r = .int .i64 (mustL q e) ∧ Nw H0 H2) := by subst h; exact rmust_ct b e w0 H0
theorem argJ {x : TSq} (h1 : ¬ x.og = Zid) : decide (((((¬ x.cu = Zid ∧ 0 ≤ x.dn) ∧ x.dn ≤ x.td.length) ∧ 0 ≤ x.md) ∧ x.md ≤ x.dn) ∧ ¬ (x.st = true ∧ x.dn = x.td.length)) = argB x :=
 decide_eq_decide.2 ⟨fun ⟨⟨⟨⟨⟨a, b⟩, c⟩, d⟩, e⟩, f⟩ => ⟨h1, a, b, c, d, e, f⟩, fun ⟨_, a, b, c, d, e, f⟩ => ⟨⟨⟨⟨⟨a, b⟩, c⟩, d⟩, e⟩, f⟩⟩
theorem argT {x : TSq} (h1 : ¬ x.og = Zid) (h2 : ¬ x.cu = Zid) (h3 : 0 ≤ x.dn) (h4 : x.dn ≤ x.td.length) (h5 : 0 ≤ x.md) (h6 : x.md ≤ x.dn) (h7 : x.st = true) : decide (¬ x.dn = (x.td.length : Int)) = argB x :=
 decide_eq_decide.2 ⟨fun h => ⟨h1, h2, h3, h4, h5, h6, fun e => h e.2⟩, fun h e => h.2.2.2.2.2.2 ⟨h7, e⟩⟩
theorem argS {x : TSq} (h1 : ¬ x.og = Zid) (h2 : ¬ x.cu = Zid) (h3 : 0 ≤ x.dn) (h4 : x.dn ≤ x.td.length) (h5 : 0 ≤ x.md) (h6 : x.md ≤ x.dn) (h7 : x.st = false) : (!false) = argB x :=
 (decide_eq_true ⟨h1, h2, h3, h4, h5, h6, fun e => by rw [h7] at e; cases e.1⟩).symm
def memE (x : TMm) : Int := if x.k = Zid then 1 else if 65536 < x.d.length then 5 else 0
def memAll : List TMm → Int
 | [] => 0
 | x :: l => if memE x ≠ 0 then memE x else memAll l
theorem memAll_no : ∀ {l : List TMm}, (∀ y ∈ l, memE y = 0) → memAll l = 0
 | [], _ => rfl
 | x :: l, h => by rw [memAll, if_neg (by simpa using h x List.mem_cons_self)]; exact memAll_no (fun y hy => h y (List.mem_cons_of_mem _ hy))
theorem memAll_at : ∀ {l : List TMm} {j : Nat} (hj : j < l.length), (∀ y ∈ l.take j, memE y = 0) → memE l[j] ≠ 0 → memAll l = memE l[j]
 | x :: l, 0, _, _, h => by
   simp only [List.getElem_cons_zero] at h ⊢
   rw [memAll, if_pos h]
 | x :: l, j + 1, hj, h, h2 => by
   rw [memAll, if_neg (by simpa using h x (by simp))]
   exact memAll_at (l := l) (j := j) (by simpa using hj) (fun y hy => h y (by simp [hy])) (by simpa using h2)
theorem mem_first (y : TMm) : firstL [mustL (decide (¬ y.k = Zid)) 1, mustL (decide (y.d.length ≤ 65536)) 5] = memE y := by
 unfold memE
 simp only [firstL, mustL, decide_eq_true_eq]
 by_cases h1 : y.k = Zid <;> by_cases h2 : y.d.length ≤ 65536 <;> simp [h1, h2] <;> omega
theorem table_ct (s : TSt) (F : Nat → Prop) (w0 : World) (H0 : Heap)
 (hs : StR F H0 s) (bf_hs : BF F H0.size) :
 Ct Tryz.prog w0 53 #[stV s] H0 (fun r H2 => ∃ mb : Nat, r = .map (some mb) ∧ (Mp H2 Str vA mb (tabL s.rl)) ∧ (Nx 0 H0.size (mb + 1)) ∧ Nw H0 H2) := by
 refine Ct.enter (args := [stV s]) Tryz.func53 rfl rfl rfl ?_
 intro Q0 hret
 have hm0 : Nw H0 H0 := Mo.refl _ _
 have hrl := hs.r.len
 refine CW.s1 (fun hK1 => CW.region ?_)
 refine LR.z1 (Z.boxv rfl rfl) fun v1 H1 r1 => ?_
 obtain ⟨rfl, vs, hs1, ob1, hH1⟩ := r1
 have hzs1 : H1.size = H0.size + 1 := by rw [hH1]; simp
 replace hs := hs.nw hs1
 replace hm0 := hm0.tr hs1
 have hz1 := hs1.size
 replace vs : Var 47 H1 H0.size (fSt s) := vs
 refine LR.a1 (LR.nil (hK1 _ _ ?_))
 refine CW.s1 (fun hK2 => CW.region ?_)
 refine LR.z1 (Z.makeMp Str vA rfl) fun v6 H6 r6 => ?_
 obtain ⟨rfl, tm, hs6, ob6, hH6⟩ := r6
 have hzs6 : H6.size = H1.size + 1 := by rw [hH6]; simp
 have df3 := (DF.new (bf_hs.mono hm0.size) : DF _ (H1.size + 1))
 have nx5 : Nx 0 H0.size (H1.size + 1) := Nx.new hm0.size
 replace hs := hs.nw hs6
 replace vs := vs.nw hs6
 replace hm0 := hm0.tr hs6
 have hz2 := hs6.size
 have hlt_tm := tm.lt
 refine LR.a1 (LR.nil (hK2 _ _ ?_))
 refine CW.s1 (fun hK3 => CW.s1 (fun hK4 => CW.region ?_))
 refine LR.v1 (Y.FA vs.pt rfl u'47 rfl s'44) ?_
 refine LR.v1 (Y.load1 (vs.pt.drop 1) rfl a'44 rfl) ?_
 refine LR.v1 (Y.len hs.r rfl u'44 rfl) ?_
 refine LR.m1 (LR.nil (hK4 _ _ ?_))
 refine CW.block (fun _ _ hX5 _ => ?_)
 refine CW.loop (fun (j : (Nat)) => [(3, .map (some H1.size)), (8, s.rv.v), (9, .int .i64 (s.rl.length : Int)), (10, .int .i64 (j : Int))])
  (fun (j : (Nat)) (H : Heap) => (Mp H Str vA H1.size (tabL (s.rl.take j))) ∧ (j ≤ s.rl.length) ∧ Mo (Ms [(H1.size + 1)]) H6 H)
  (fun (j : (Nat)) => s.rl.length - j) 0 ⟨rfl, rfl, rfl, rfl, trivial⟩ ?_ ?_
 ·
  exact ⟨tm, (by omega), Mo.refl _ _⟩
 intro j HL1 hI1 K6 hN6 hE6
 obtain ⟨tm, hj, hlm1⟩ := hI1
 replace hs := hs.upL hlm1 (DFL.o df3)
 replace hm0 := hm0.tq hlm1 (MIL.o (MI.q nx5))
 have hz3 := hlm1.size
 have nx_hlm1_tm := Nx.refl (H1.size + 1) H6.size
 refine CW.s1 (fun hK7 => CW.region ?_)
 refine LR.v1 (Y.lss rfl rfl rfl) (LR.nil (hK7 _ _ ?_))
 refine CW.s2 (fun hK8 hE8 => ?_)
 refine CW.condp rfl (fun c11 => ?_) (fun c11 => ?_)
 ·
  have hjl : j < s.rl.length := by omega
  obtain ⟨x, hx⟩ : ∃ x, x = s.rl[j] := ⟨_, rfl⟩
  refine CW.skip (hK8 _ _ (CW.s1 (fun hK9 => CW.block (fun _ hK10 _ _ => CW.s1 (fun hK11 => CW.region ?_)))))
  refine LR.e1 (g := fun ad => .pointer (some ad)) (Y.indexAddrF hs.r (j) rfl u'44 s'71 rfl rfl (by first | rfl | omega) (by omega)) fun ad12 pt12 => ?_
  refine LR.v1 (Y.cast (v2 := .agg (fRf x).toArray) (Y.loadN pt12.pt rfl a'71 s'71 (fRf_len _) rfl) (by rw [hx])) ?_
  refine LR.z1 (Z.allocv rfl z'71) fun v5 H5 r5 => ?_
  obtain ⟨rfl, vr, hs5, ob5, hH5⟩ := r5
  have hzs5 : H5.size = HL1.size + 1 := by rw [hH5]; simp
  have dj7 : Dj (H1.size + 1) (HL1.size + 1) := Dj.new tm.lt
  have nx10 : Nx 0 H6.size (HL1.size + 1) := Nx.new hlm1.size
  replace tm := tm.nw hs5
  replace hlm1 := hlm1.trN hs5
  have hz4 := hs5.size
  replace vr : Var 71 H5 HL1.size (fRf zRf) := vr
  refine LR.s1 (S.var vr (_) (fRf x) rfl rfl rfl rfl (fRf_one _) s'71 (fRf_len _) (by simp [fRf_len]) ((splice_all2 ((fRf_len _).trans (fRf_len _).symm)))) fun H4_3 r4_3 => ?_
  obtain ⟨vr, hs4_3⟩ := r4_3
  replace hs4_3 := hs4_3.md1
  replace tm := tm.upL hs4_3 (DL.o dj7)
  replace hlm1 := hlm1.trL hs4_3 (MIL.o (MI.q nx10))
  have hz5 := hs4_3.size
  refine LR.nil (hK11 _ _ (CW.region ?_))
  refine LR.m1 ?_
  refine LR.v1 (Y.FA vr.pt rfl u'71 rfl s'9) ?_
  refine LR.v1 (Y.load1 vr.pt rfl a'9 rfl) ?_
  refine LR.v1 (Y.FA vr.pt rfl u'71 rfl s'26) ?_
  refine LR.v1 (Y.cast (v2 := vA x.i) (Y.loadN ((vr.pt.drop 1).take 32) rfl a'26 s'26 (by rw [fRf_i]; exact fA_len _) rfl) (congrArg (fun z : List Value => Value.agg z.toArray) (fRf_i _))) ?_
  refine LR.s1 (S.putMp (x.i) tm keyStr rfl u'130 Tryz.underlying9 rfl rfl rfl) fun H5_5 r5_5 => ?_
  obtain ⟨tm, hs5_5⟩ := r5_5
  replace hs5_5 := hs5_5.md1
  replace hlm1 := hlm1.trL hs5_5 (MIL.o (MI.r nx_hlm1_tm))
  have hz6 := hs5_5.size
  refine LR.nil (hK10 _ _ (hK9 _ _ (CW.region ?_)))
  refine LR.v1 (Y.addi rfl rfl rfl (by omega)) ?_
  refine LR.m1 (LR.nil ?_)
  refine QN.sub (hN6 (j + 1) _ ?_ ?_) ⟨rfl, rfl, (iv (by omega)), (iv (by omega)), trivial⟩
  · exact ⟨by rw [List.take_succ_eq_append_getElem (show j < s.rl.length by omega), tabL_snoc, ← hx]; exact tm, (by omega), hlm1⟩
  · first | omega | (simp only; omega) | (simp; omega)
 ·
  refine CW.exit (hE8 (.exit 0) nofun _ _ (hE6 (.exit 0) nofun _ _ (hX5 _ _ ?_)))
  refine hK3 _ _ (CW.s1 (fun hK12 => CW.region ?_))
  refine LR.m1 ?_
  refine LR.a1 (LR.nil (hK12 _ _ ?_))
  refine CW.ret (hret .ret (.inr rfl) _ _ _ (res1 rfl rfl) ?_)
  obtain rfl : j = s.rl.length := by omega
  rw [List.take_length] at tm
  exact ⟨H1.size, rfl, tm, nx5, hm0⟩
theorem move_ct (mb : Nat) (m : List (List UInt8 × Ide)) (x : TMv) (w0 : World) (H0 : Heap)
 (tm : Mp H0 Str vA mb m) :
 Ct Tryz.prog w0 54 #[.map (some mb), mvV x] H0 (fun r H2 => r = .tuple #[] ∧ (Mp H2 Str vA mb (movL m x)) ∧ Mo (Ms [(mb + 1)]) H0 H2) := by
 refine Ct.enter (args := [.map (some mb), mvV x]) Tryz.func54 rfl rfl rfl ?_
 intro Q0 hret
 have hm0 : Mo (Ms [(mb + 1)]) H0 H0 := Mo.refl _ _
 have nx_hm0_tm := Nx.refl (mb + 1) H0.size
 refine CW.s1 (fun hK1 => CW.region ?_)
 refine LR.z1 (Z.boxv rfl rfl) fun v3 H3 r3 => ?_
 obtain ⟨rfl, vm, hs3, ob3, hH3⟩ := r3
 replace tm := tm.nw hs3
 replace hm0 := hm0.trN hs3
 replace vm : Var 52 H3 H0.size (fMv x) := vm
 refine LR.nil (hK1 _ _ (CW.block (fun _ _ hX2 _ => CW.s2 (fun hK3 hE3 => CW.block (fun _ hK4 hX4 hE4 => CW.block (fun _ _ hX5 hE5 => CW.s2 (fun hK6 hE6 => CW.block (fun _ _ hX7 hE7 => CW.s2 (fun hK8 hE8 => CW.s2 (fun hK9 hE9 => CW.s1 (fun hK10 => CW.region ?_)))))))))))
 refine LR.v1 (Y.FA vm.pt rfl u'52 rfl s'26) ?_
 refine LR.v1 (Y.cast (v2 := vA x.w) (Y.loadN ((vm.pt.drop 33).take 32) rfl a'26 s'26 (by rw [fMv_w]; exact fA_len _) rfl) (congrArg (fun z : List Value => Value.agg z.toArray) (fMv_w _))) ?_
 refine LR.call rfl c'55 rfl (Wd.u rfl) rfl rfl (rnone_ct x.w w0 _) (fun v7 H7 r7 => ?_)
 obtain ⟨rfl, hs7⟩ := r7
 replace tm := tm.nw hs7
 replace vm := vm.nw hs7
 replace hm0 := hm0.trN hs7
 refine LR.a1 (LR.nil (hK10 _ _ ?_))
 refine CW.condp rfl (fun c4 => ?_) (fun c4 => ?_)
 ·
  refine CW.exit (hE9 (.exit 1) nofun _ _ (hE8 (.exit 1) nofun _ _ (hX7 _ _ ?_)))
  refine hK6 _ _ (CW.s1 (fun hK11 => CW.region ?_))
  refine LR.m1 ?_
  refine LR.v1 (Y.FA vm.pt rfl u'52 rfl s'9) ?_
  refine LR.v1 (Y.load1 vm.pt rfl a'9 rfl) ?_
  refine LR.zn (Z.delS tm keyStr rfl u'130 Tryz.underlying9 rfl rfl) (Wd.u rfl) rfl (fun v3_3 H3_3 r3_3 => ?_)
  obtain ⟨rfl, tm, hs3_3⟩ := r3_3
  replace hs3_3 := hs3_3.md1
  replace hm0 := hm0.trL hs3_3 (MIL.o (MI.r nx_hm0_tm))
  refine LR.nil (hK11 _ _ ?_)
  refine CW.exit (hE5 (.exit 0) nofun (by simp) _ _ (hE4 (.exit 0) nofun (by simp) _ _ (hE3 (.exit 0) nofun _ _ (hX2 _ _ ?_))))
  refine hret .normal (.inl rfl) _ _ _ (res0 rfl) ?_
  exact ⟨rfl, by first | (unfold movL; rw [if_pos c4]; exact tm) | (unfold movL; rw [if_neg c4]; exact tm), hm0⟩
 ·
  refine CW.skip (hK9 _ _ (CW.s1 (fun hK12 => CW.region ?_)))
  refine LR.v1 (Y.FA vm.pt rfl u'52 rfl s'26) ?_
  refine LR.v1 (Y.cast (v2 := vA x.o) (Y.loadN ((vm.pt.drop 1).take 32) rfl a'26 s'26 (by rw [fMv_o]; exact fA_len _) rfl) (congrArg (fun z : List Value => Value.agg z.toArray) (fMv_o _))) ?_
  refine LR.call rfl c'55 rfl (Wd.u rfl) rfl rfl (rnone_ct x.o w0 _) (fun v11 H11 r11 => ?_)
  obtain ⟨rfl, hs11⟩ := r11
  replace tm := tm.nw hs11
  replace vm := vm.nw hs11
  replace hm0 := hm0.trN hs11
  refine LR.a1 (LR.nil (hK12 _ _ ?_))
  refine CW.condp rfl (fun c8 => ?_) (fun c8 => ?_)
  ·
   refine CW.exit (hE8 (.exit 2) nofun _ _ (hE7 (.exit 2) nofun (by simp) _ _ (hE6 (.exit 2) nofun _ _ (hX5 _ _ ?_))))
   refine hK4 _ _ (hK3 _ _ (CW.s1 (fun hK13 => CW.region ?_)))
   refine LR.m1 ?_
   refine LR.v1 (Y.FA vm.pt rfl u'52 rfl s'9) ?_
   refine LR.v1 (Y.load1 vm.pt rfl a'9 rfl) ?_
   refine LR.v1 (Y.FA vm.pt rfl u'52 rfl s'26) ?_
   refine LR.v1 (Y.cast (v2 := vA x.w) (Y.loadN ((vm.pt.drop 33).take 32) rfl a'26 s'26 (by rw [fMv_w]; exact fA_len _) rfl) (congrArg (fun z : List Value => Value.agg z.toArray) (fMv_w _))) ?_
   refine LR.s1 (S.putMp (x.w) tm keyStr rfl u'130 Tryz.underlying9 rfl rfl rfl) fun H4_5 r4_5 => ?_
   obtain ⟨tm, hs4_5⟩ := r4_5
   replace hs4_5 := hs4_5.md1
   replace hm0 := hm0.trL hs4_5 (MIL.o (MI.r nx_hm0_tm))
   refine LR.nil (hK13 _ _ ?_)
   refine CW.exit (hX2 _ _ ?_)
   refine hret .normal (.inl rfl) _ _ _ (res0 rfl) ?_
   exact ⟨rfl, by first | (unfold movL; rw [if_pos c4]; exact tm) | (unfold movL; rw [if_neg c4]; exact tm), hm0⟩
  ·
   refine CW.skip (hK8 _ _ ?_)
   refine CW.exit (hE7 (.exit 3) nofun (by simp) _ _ (hE6 (.exit 3) nofun _ _ (hE5 (.exit 3) nofun (by simp) _ _ (hX4 _ _ ?_))))
   refine hK3 _ _ (CW.s1 (fun hK14 => CW.region ?_))
   refine LR.m1 ?_
   refine LR.v1 (Y.FA vm.pt rfl u'52 rfl s'9) ?_
   refine LR.v1 (Y.load1 vm.pt rfl a'9 rfl) ?_
   refine LR.v1 (Y.FA vm.pt rfl u'52 rfl s'26) ?_
   refine LR.v1 (Y.cast (v2 := vA x.w) (Y.loadN ((vm.pt.drop 33).take 32) rfl a'26 s'26 (by rw [fMv_w]; exact fA_len _) rfl) (congrArg (fun z : List Value => Value.agg z.toArray) (fMv_w _))) ?_
   refine LR.s1 (S.putMp (x.w) tm keyStr rfl u'130 Tryz.underlying9 rfl rfl rfl) fun H4_5 r4_5 => ?_
   obtain ⟨tm, hs4_5⟩ := r4_5
   replace hs4_5 := hs4_5.md1
   replace hm0 := hm0.trL hs4_5 (MIL.o (MI.r nx_hm0_tm))
   refine LR.nil (hK14 _ _ ?_)
   refine CW.exit (hX2 _ _ ?_)
   refine hret .normal (.inl rfl) _ _ _ (res0 rfl) ?_
   exact ⟨rfl, by first | (unfold movL; rw [if_pos c4]; exact tm) | (unfold movL; rw [if_neg c4]; exact tm), hm0⟩
set_option maxHeartbeats 4000000 in
theorem seq_ct (x : TSq) (mx_ : Int) (w0 : World) (H0 : Heap)
 (mx : MX mx_ H0) (bf_mx : BF (fun b => b = 0) H0.size) (hl : RdT H0 fTd 33 x.tv.v x.td) (hb : x.br.length ≤ 9223372036854775807) :
 Ct Tryz.prog w0 50 #[sqV x] H0 (fun r H2 => r = .int .i64 (if x.k ≠ 0 then seqE x else 0) ∧ Nw H0 H2) := by
 refine Ct.enter (args := [sqV x]) Tryz.func50 rfl rfl rfl ?_
 intro Q0 hret
 have hm0 : Nw H0 H0 := Mo.refl _ _
 replace hl := hl.bnd
 have hll := hl.len
 refine CW.s1 (fun hK1 => CW.region ?_)
 refine LR.z1 (Z.boxv rfl rfl) fun v1 H1 r1 => ?_
 obtain ⟨rfl, va, hs1, ob1, hH1⟩ := r1
 have hzs1 : H1.size = H0.size + 1 := by rw [hH1]; simp
 replace mx := mx.nw hs1
 replace hl := hl.nw hs1
 replace hm0 := hm0.tr hs1
 have hz1 := hs1.size
 replace va : Var 29 H1 H0.size (fSq x) := va
 refine LR.a1 (LR.nil (hK1 _ _ ?_))
 refine CW.s2 (fun hK2 hE2 => CW.s1 (fun hK3 => CW.region ?_))
 refine LR.v1 (Y.FA va.pt rfl u'29 rfl s'3) ?_
 refine LR.v1 (Y.load1 va.pt rfl a'3 rfl) ?_
 refine LR.v1 (Y.eql rfl rfl rfl) (LR.nil (hK3 _ _ ?_))
 refine CW.condp rfl (fun c9 => ?_) (fun c9 => ?_)
 ·
  refine CW.s1 (fun hK4 => CW.region ?_)
  refine LR.a1 (LR.nil (hK4 _ _ ?_))
  refine CW.ret (hE2 .ret nofun _ _ (hret .ret (.inr rfl) _ _ _ (res1 rfl rfl) ?_))
  exact ⟨by rw [if_neg (by simpa using c9)], hm0⟩
 ·
  refine CW.skip (hK2 _ _ (CW.s1 (fun hK5 => CW.region ?_)))
  refine LR.v1 (Y.FA va.pt rfl u'29 rfl s'27) ?_
  refine LR.v1 (Y.load1 va.pt.sq66 rfl a'27 rfl) ?_
  refine LR.v1 (Y.len hl rfl u'27 rfl) ?_
  refine LR.a1 (LR.nil (hK5 _ _ ?_))
  refine CW.cut (fun (e0 : (Int)) => [(1, .pointer (some ⟨H0.size, 0, none⟩)), (4, .int .i64 e0)])
   (fun (e0 : (Int)) (H : Heap) => (e0 = headE x) ∧ Nw H1 H) (fun _ hK6 _ => ?_) ?_
  ·
   have hcm6 : Nw H1 H1 := Mo.refl _ _
   refine CW.region_any (fun Hq => Nw H1 Hq) [] rfl ?_
   have hqs := Nw.refl H1
   refine LH.t1 0 rfl (fun Hq hq => Y.FA (va.pt.nw hq) rfl u'29 rfl s'3) hqs ?_
   refine LH.t1 1 rfl (fun Hq hq => Y.load1 (va.pt.nw hq) rfl a'3 rfl) hqs ?_
   refine LH.t1 2 rfl (fun Hq hq => Y.eql rfl rfl rfl) hqs ?_
   refine LH.m1 3 rfl hqs ?_
   refine LH.join (d := 20) (v := .bool (decide (x.k = 1 ∨ x.k = 2))) 55 [7, 6, 5, 4, 3, 2, 1, 0] (fun J16 => ?_) ?_
   ·
    refine LH.splitp (d := 16) rfl (fun g16 => ?_) (fun g16 => ?_)
    ·
     refine LH.g1 4 rfl rfl rfl rfl hqs ?_
     refine LH.g1 5 rfl rfl rfl rfl hqs ?_
     refine LH.g1 6 rfl rfl rfl rfl hqs ?_
     refine LH.t1 7 rfl (fun Hq hq => Y.pick_t rfl rfl rfl) hqs ?_
     exact J16 _ (congrArg (fun b => some (Value.bool b)) (by simp [g16])) (Sb.c rfl (Sb.c rfl (Sb.c rfl (Sb.c rfl (Sb.b rfl (congrArg Value.bool (decide_eq_true g16).symm))))))
    ·
     refine LH.u1 4 rfl (fun Hq hq => Y.FA (va.pt.nw hq) rfl u'29 rfl s'3) (Wd.g rfl rfl rfl) hqs ?_
     refine LH.u1 5 rfl (fun Hq hq => Y.load1 (va.pt.nw hq) rfl a'3 rfl) (Wd.g rfl rfl rfl) hqs ?_
     refine LH.u1 6 rfl (fun Hq hq => Y.eql rfl rfl rfl) (Wd.g rfl rfl rfl) hqs ?_
     refine LH.t1 7 rfl (fun Hq hq => Y.pick_f rfl rfl rfl) hqs ?_
     exact J16 _ (congrArg (fun b => some (Value.bool b)) (by simp [g16])) (Sb.c rfl (Sb.c rfl (Sb.c rfl (Sb.c rfl (Sb.b rfl (congrArg Value.bool (decide_eq_false g16).symm))))))
   refine LH.t1 9 rfl (fun Hq hq => Y.FA (va.pt.nw hq) rfl u'29 rfl s'9) hqs ?_
   refine LH.t1 10 rfl (fun Hq hq => Y.load1 ((va.pt.drop 1).nw hq) rfl a'9 rfl) hqs ?_
   refine LH.t1 12 rfl (fun Hq hq => Y.FA (va.pt.nw hq) rfl u'29 rfl s'26) hqs ?_
   refine LH.t1 13 rfl (fun Hq hq => Y.cast (v2 := vA x.og) (Y.loadN (((va.pt.drop 2).nw hq).take 32) rfl a'26 s'26 (by rw [fSq_og]; exact fA_len _) rfl) (congrArg (fun z : List Value => Value.agg z.toArray) (fSq_og _))) hqs ?_
   refine LH.m1 57 rfl hqs ?_
   refine LH.t1 58 rfl (fun Hq hq => Y.leq rfl rfl rfl) hqs ?_
   refine LH.o1 8 ?_
   refine LO.call rfl rfl c'46 rfl (Wd.u rfl) rfl rfl (rmust_to (decide (x.k = 1 ∨ x.k = 2)) 3 (by first | (exact (decide_eq_true (by omega)).symm) | (exact (decide_eq_false (by omega)).symm) | (exact decide_eq_decide.2 (by omega))) w0 _) (fun v21 H21 r21 => ?_)
   obtain ⟨rfl, hs21⟩ := r21
   replace mx := mx.nw hs21
   replace va := va.nw hs21
   replace hcm6 := hcm6.tr hs21
   have hz2 := hs21.size
   have hq21 := hqs.tr hs21
   refine ⟨.inr hq21, LH.narrow (SH2 := fun Hq => Nw H21 Hq) (fun Hq hq => hq21.tr hq) ?_⟩
   have hqn21 := Nw.refl H21
   refine LH.o1 11 ?_
   refine LO.call rfl rfl c'48 rfl (Wd.u rfl) rfl rfl (chk_ct x.br mx_ w0 _ mx (bf_mx.mono (by omega)) hb) (fun v24 H24 r24 => ?_)
   obtain ⟨rfl, hs24⟩ := r24
   replace va := va.nw hs24
   replace hcm6 := hcm6.tr hs24
   have hz3 := hs24.size
   have hq24 := hqn21.tr hs24
   refine ⟨.inr hq24, LH.narrow (SH2 := fun Hq => Nw H24 Hq) (fun Hq hq => hq24.tr hq) ?_⟩
   have hqn24 := Nw.refl H24
   refine LH.o1 14 ?_
   refine LO.call rfl rfl c'55 rfl (Wd.u rfl) rfl rfl (rnone_ct x.og w0 _) (fun v27 H27 r27 => ?_)
   obtain ⟨rfl, hs27⟩ := r27
   replace va := va.nw hs27
   replace hcm6 := hcm6.tr hs27
   have hz4 := hs27.size
   have hq27 := hqn24.tr hs27
   refine ⟨.inr hq27, LH.narrow (SH2 := fun Hq => Nw H27 Hq) (fun Hq hq => hq27.tr hq) ?_⟩
   have hqn27 := Nw.refl H27
   refine LH.t1 15 rfl (fun Hq hq => Y.notp rfl rfl) hqn27 ?_
   refine LH.m1 16 rfl hqn27 ?_
   refine LH.splitp (d := 29) rfl (fun g29 => ?_) (fun g29 => ?_)
   ·
    refine LH.u1 17 rfl (fun Hq hq => Y.FA (va.pt.nw hq) rfl u'29 rfl s'26) (Wd.g rfl rfl rfl) hqn27 ?_
    refine LH.u1 18 rfl (fun Hq hq => Y.cast (v2 := vA x.cu) (Y.loadN (((va.pt.drop 34).nw hq).take 32) rfl a'26 s'26 (by rw [fSq_cu]; exact fA_len _) rfl) (congrArg (fun z : List Value => Value.agg z.toArray) (fSq_cu _))) (Wd.g rfl rfl rfl) hqn27 ?_
    refine LH.o1 19 ?_
    refine LO.call rfl rfl c'55 rfl (Wd.g rfl rfl rfl) rfl rfl (rnone_ct x.cu w0 _) (fun v32 H32 r32 => ?_)
    obtain ⟨rfl, hs32⟩ := r32
    replace va := va.nw hs32
    replace hcm6 := hcm6.tr hs32
    have hz5 := hs32.size
    have hq32 := hqn27.tr hs32
    refine ⟨.inr hq32, LH.narrow (SH2 := fun Hq => Nw H32 Hq) (fun Hq hq => hq32.tr hq) ?_⟩
    have hqn32 := Nw.refl H32
    refine LH.u1 20 rfl (fun Hq hq => Y.notp rfl rfl) (Wd.g rfl rfl rfl) hqn32 ?_
    refine LH.t1 21 rfl (fun Hq hq => Y.pick_t rfl rfl rfl) hqn32 ?_
    refine LH.m1 22 rfl hqn32 ?_
    refine LH.join (d := 39) (v := .bool (decide (¬ x.cu = Zid ∧ 0 ≤ x.dn))) 34 [26, 25, 24, 23, 22, 21, 20, 19, 18, 17, 16, 15, 14, 11, 8, 58, 57, 13, 12, 10, 9, 7, 6, 5, 4, 3, 2, 1, 0] (fun J35 => ?_) ?_
    ·
     refine LH.splitp (d := 35) rfl (fun g35 => ?_) (fun g35 => ?_)
     ·
      refine LH.u1 23 rfl (fun Hq hq => Y.FA (va.pt.nw hq) rfl u'29 rfl s'3) (Wd.g rfl rfl rfl) hqn32 ?_
      refine LH.u1 24 rfl (fun Hq hq => Y.load1 (va.pt.sq67.nw hq) rfl a'3 rfl) (Wd.g rfl rfl rfl) hqn32 ?_
      refine LH.u1 25 rfl (fun Hq hq => Y.geq rfl rfl rfl) (Wd.g rfl rfl rfl) hqn32 ?_
      refine LH.t1 26 rfl (fun Hq hq => Y.pick_t rfl rfl rfl) hqn32 ?_
      exact J35 _ (congrArg (fun b => some (Value.bool b)) (by simp [g35])) (Sb.c rfl (Sb.c rfl (Sb.c rfl (Sb.c rfl (Sb.b rfl (congrArg Value.bool (decide_eq_true g35).symm))))))
     ·
      refine LH.g1 23 rfl rfl rfl rfl hqn32 ?_
      refine LH.g1 24 rfl rfl rfl rfl hqn32 ?_
      refine LH.g1 25 rfl rfl rfl rfl hqn32 ?_
      refine LH.t1 26 rfl (fun Hq hq => Y.pick_f rfl rfl rfl) hqn32 ?_
      exact J35 _ (congrArg (fun b => some (Value.bool b)) (by simp [g35])) (Sb.c rfl (Sb.c rfl (Sb.c rfl (Sb.c rfl (Sb.b rfl (congrArg Value.bool (decide_eq_false g35).symm))))))
    refine LH.m1 27 rfl hqn32 ?_
    refine LH.join (d := 45) (v := .bool (decide ((¬ x.cu = Zid ∧ 0 ≤ x.dn) ∧ x.dn ≤ x.td.length))) 28 [32, 31, 30, 29, 28, 27, 26, 25, 24, 23, 22, 21, 20, 19, 18, 17, 16, 15, 14, 11, 8, 58, 57, 13, 12, 10, 9, 7, 6, 5, 4, 3, 2, 1, 0] (fun J40 => ?_) ?_
    ·
     refine LH.splitp (d := 40) rfl (fun g40 => ?_) (fun g40 => ?_)
     ·
      refine LH.u1 28 rfl (fun Hq hq => Y.FA (va.pt.nw hq) rfl u'29 rfl s'3) (Wd.g rfl rfl rfl) hqn32 ?_
      refine LH.u1 29 rfl (fun Hq hq => Y.load1 (va.pt.sq67.nw hq) rfl a'3 rfl) (Wd.g rfl rfl rfl) hqn32 ?_
      refine LH.u1 30 rfl (fun Hq hq => Y.move rfl rfl) (Wd.g rfl rfl rfl) hqn32 ?_
      refine LH.u1 31 rfl (fun Hq hq => Y.leq rfl rfl rfl) (Wd.g rfl rfl rfl) hqn32 ?_
      refine LH.t1 32 rfl (fun Hq hq => Y.pick_t rfl rfl rfl) hqn32 ?_
      exact J40 _ (congrArg (fun b => some (Value.bool b)) (by simp [g40])) (Sb.c rfl (Sb.c rfl (Sb.c rfl (Sb.c rfl (Sb.c rfl (Sb.b rfl (congrArg Value.bool (decide_eq_true g40).symm)))))))
     ·
      refine LH.g1 28 rfl rfl rfl rfl hqn32 ?_
      refine LH.g1 29 rfl rfl rfl rfl hqn32 ?_
      refine LH.g1 30 rfl rfl rfl rfl hqn32 ?_
      refine LH.g1 31 rfl rfl rfl rfl hqn32 ?_
      refine LH.t1 32 rfl (fun Hq hq => Y.pick_f rfl rfl rfl) hqn32 ?_
      exact J40 _ (congrArg (fun b => some (Value.bool b)) (by simp [g40])) (Sb.c rfl (Sb.c rfl (Sb.c rfl (Sb.c rfl (Sb.c rfl (Sb.b rfl (congrArg Value.bool (decide_eq_false g40).symm)))))))
    refine LH.m1 33 rfl hqn32 ?_
    refine LH.join (d := 50) (v := .bool (decide (((¬ x.cu = Zid ∧ 0 ≤ x.dn) ∧ x.dn ≤ x.td.length) ∧ 0 ≤ x.md))) 23 [37, 36, 35, 34, 33, 32, 31, 30, 29, 28, 27, 26, 25, 24, 23, 22, 21, 20, 19, 18, 17, 16, 15, 14, 11, 8, 58, 57, 13, 12, 10, 9, 7, 6, 5, 4, 3, 2, 1, 0] (fun J46 => ?_) ?_
    ·
     refine LH.splitp (d := 46) rfl (fun g46 => ?_) (fun g46 => ?_)
     ·
      refine LH.u1 34 rfl (fun Hq hq => Y.FA (va.pt.nw hq) rfl u'29 rfl s'3) (Wd.g rfl rfl rfl) hqn32 ?_
      refine LH.u1 35 rfl (fun Hq hq => Y.load1 (va.pt.sq68.nw hq) rfl a'3 rfl) (Wd.g rfl rfl rfl) hqn32 ?_
      refine LH.u1 36 rfl (fun Hq hq => Y.geq rfl rfl rfl) (Wd.g rfl rfl rfl) hqn32 ?_
      refine LH.t1 37 rfl (fun Hq hq => Y.pick_t rfl rfl rfl) hqn32 ?_
      exact J46 _ (congrArg (fun b => some (Value.bool b)) (by simp [g46])) (Sb.c rfl (Sb.c rfl (Sb.c rfl (Sb.c rfl (Sb.b rfl (congrArg Value.bool (decide_eq_true g46).symm))))))
     ·
      refine LH.g1 34 rfl rfl rfl rfl hqn32 ?_
      refine LH.g1 35 rfl rfl rfl rfl hqn32 ?_
      refine LH.g1 36 rfl rfl rfl rfl hqn32 ?_
      refine LH.t1 37 rfl (fun Hq hq => Y.pick_f rfl rfl rfl) hqn32 ?_
      exact J46 _ (congrArg (fun b => some (Value.bool b)) (by simp [g46])) (Sb.c rfl (Sb.c rfl (Sb.c rfl (Sb.c rfl (Sb.b rfl (congrArg Value.bool (decide_eq_false g46).symm))))))
    refine LH.m1 38 rfl hqn32 ?_
    refine LH.join (d := 57) (v := .bool (decide ((((¬ x.cu = Zid ∧ 0 ≤ x.dn) ∧ x.dn ≤ x.td.length) ∧ 0 ≤ x.md) ∧ x.md ≤ x.dn))) 16 [44, 43, 42, 41, 40, 39, 38, 37, 36, 35, 34, 33, 32, 31, 30, 29, 28, 27, 26, 25, 24, 23, 22, 21, 20, 19, 18, 17, 16, 15, 14, 11, 8, 58, 57, 13, 12, 10, 9, 7, 6, 5, 4, 3, 2, 1, 0] (fun J51 => ?_) ?_
    ·
     refine LH.splitp (d := 51) rfl (fun g51 => ?_) (fun g51 => ?_)
     ·
      refine LH.u1 39 rfl (fun Hq hq => Y.FA (va.pt.nw hq) rfl u'29 rfl s'3) (Wd.g rfl rfl rfl) hqn32 ?_
      refine LH.u1 40 rfl (fun Hq hq => Y.load1 (va.pt.sq68.nw hq) rfl a'3 rfl) (Wd.g rfl rfl rfl) hqn32 ?_
      refine LH.u1 41 rfl (fun Hq hq => Y.FA (va.pt.nw hq) rfl u'29 rfl s'3) (Wd.g rfl rfl rfl) hqn32 ?_
      refine LH.u1 42 rfl (fun Hq hq => Y.load1 (va.pt.sq67.nw hq) rfl a'3 rfl) (Wd.g rfl rfl rfl) hqn32 ?_
      refine LH.u1 43 rfl (fun Hq hq => Y.leq rfl rfl rfl) (Wd.g rfl rfl rfl) hqn32 ?_
      refine LH.t1 44 rfl (fun Hq hq => Y.pick_t rfl rfl rfl) hqn32 ?_
      exact J51 _ (congrArg (fun b => some (Value.bool b)) (by simp [g51])) (Sb.c rfl (Sb.c rfl (Sb.c rfl (Sb.c rfl (Sb.c rfl (Sb.c rfl (Sb.b rfl (congrArg Value.bool (decide_eq_true g51).symm))))))))
     ·
      refine LH.g1 39 rfl rfl rfl rfl hqn32 ?_
      refine LH.g1 40 rfl rfl rfl rfl hqn32 ?_
      refine LH.g1 41 rfl rfl rfl rfl hqn32 ?_
      refine LH.g1 42 rfl rfl rfl rfl hqn32 ?_
      refine LH.g1 43 rfl rfl rfl rfl hqn32 ?_
      refine LH.t1 44 rfl (fun Hq hq => Y.pick_f rfl rfl rfl) hqn32 ?_
      exact J51 _ (congrArg (fun b => some (Value.bool b)) (by simp [g51])) (Sb.c rfl (Sb.c rfl (Sb.c rfl (Sb.c rfl (Sb.c rfl (Sb.c rfl (Sb.b rfl (congrArg Value.bool (decide_eq_false g51).symm))))))))
    refine LH.m1 45 rfl hqn32 ?_
    refine LH.join (d := 68) (v := .bool (decide (((((¬ x.cu = Zid ∧ 0 ≤ x.dn) ∧ x.dn ≤ x.td.length) ∧ 0 ≤ x.md) ∧ x.md ≤ x.dn) ∧ ¬ (x.st = true ∧ x.dn = x.td.length)))) 5 [55, 54, 53, 52, 51, 50, 49, 48, 47, 46, 45, 44, 43, 42, 41, 40, 39, 38, 37, 36, 35, 34, 33, 32, 31, 30, 29, 28, 27, 26, 25, 24, 23, 22, 21, 20, 19, 18, 17, 16, 15, 14, 11, 8, 58, 57, 13, 12, 10, 9, 7, 6, 5, 4, 3, 2, 1, 0] (fun J58 => ?_) ?_
    ·
     refine LH.splitp (d := 58) rfl (fun g58 => ?_) (fun g58 => ?_)
     ·
      refine LH.u1 46 rfl (fun Hq hq => Y.FA (va.pt.nw hq) rfl u'29 rfl s'4) (Wd.g rfl rfl rfl) hqn32 ?_
      refine LH.u1 47 rfl (fun Hq hq => Y.load1 (va.pt.sq69.nw hq) rfl a'4 rfl) (Wd.g rfl rfl rfl) hqn32 ?_
      refine LH.u1 48 rfl (fun Hq hq => Y.move rfl rfl) (Wd.g rfl rfl rfl) hqn32 ?_
      refine LH.join (d := 66) (v := .bool (decide (x.st = true ∧ x.dn = x.td.length))) 7 [53, 52, 51, 50, 49, 48, 47, 46, 45, 44, 43, 42, 41, 40, 39, 38, 37, 36, 35, 34, 33, 32, 31, 30, 29, 28, 27, 26, 25, 24, 23, 22, 21, 20, 19, 18, 17, 16, 15, 14, 11, 8, 58, 57, 13, 12, 10, 9, 7, 6, 5, 4, 3, 2, 1, 0] (fun J61 => ?_) ?_
      ·
       refine LH.split (d := 61) rfl (fun g61 => ?_) (fun g61 => ?_)
       ·
        refine LH.u1 49 rfl (fun Hq hq => Y.FA (va.pt.nw hq) rfl u'29 rfl s'3) (Wd.g rfl rfl rfl) hqn32 ?_
        refine LH.u1 50 rfl (fun Hq hq => Y.load1 (va.pt.sq67.nw hq) rfl a'3 rfl) (Wd.g rfl rfl rfl) hqn32 ?_
        refine LH.u1 51 rfl (fun Hq hq => Y.move rfl rfl) (Wd.g rfl rfl rfl) hqn32 ?_
        refine LH.u1 52 rfl (fun Hq hq => Y.eql rfl rfl rfl) (Wd.g rfl rfl rfl) hqn32 ?_
        refine LH.u1 53 rfl (fun Hq hq => Y.pick_t rfl rfl rfl) (Wd.g rfl rfl rfl) hqn32 ?_
        exact J61 _ (congrArg (fun b => some (Value.bool b)) (by simp [g61])) (Sb.c rfl (Sb.c rfl (Sb.c rfl (Sb.c rfl (Sb.c rfl (Sb.b rfl (congrArg Value.bool g61.symm)))))))
       ·
        refine LH.g1 49 rfl rfl rfl rfl hqn32 ?_
        refine LH.g1 50 rfl rfl rfl rfl hqn32 ?_
        refine LH.g1 51 rfl rfl rfl rfl hqn32 ?_
        refine LH.g1 52 rfl rfl rfl rfl hqn32 ?_
        refine LH.u1 53 rfl (fun Hq hq => Y.pick_f rfl rfl rfl) (Wd.g rfl rfl rfl) hqn32 ?_
        exact J61 _ (congrArg (fun b => some (Value.bool b)) (by simp [g61])) (Sb.c rfl (Sb.c rfl (Sb.c rfl (Sb.c rfl (Sb.c rfl (Sb.b rfl (congrArg Value.bool g61.symm)))))))
      refine LH.u1 54 rfl (fun Hq hq => Y.notp rfl rfl) (Wd.g rfl rfl rfl) hqn32 ?_
      refine LH.t1 55 rfl (fun Hq hq => Y.pick_t rfl rfl rfl) hqn32 ?_
      exact J58 _ (congrArg (fun b => some (Value.bool b)) (by simp [g58])) (Sb.c rfl (Sb.c rfl (Sb.c rfl (Sb.c rfl (Sb.c rfl (Sb.c rfl (Sb.b rfl (congrArg Value.bool (decide_eq_true g58).symm))))))))
     ·
      refine LH.g1 46 rfl rfl rfl rfl hqn32 ?_
      refine LH.g1 47 rfl rfl rfl rfl hqn32 ?_
      refine LH.g1 48 rfl rfl rfl rfl hqn32 ?_
      refine LH.gu1 49 rfl rfl rfl rfl hqn32 ?_
      refine LH.gu1 50 rfl rfl rfl rfl hqn32 ?_
      refine LH.gu1 51 rfl rfl rfl rfl hqn32 ?_
      refine LH.gu1 52 rfl rfl rfl rfl hqn32 ?_
      refine LH.g1 53 rfl rfl rfl rfl hqn32 ?_
      refine LH.g1 54 rfl rfl rfl rfl hqn32 ?_
      refine LH.t1 55 rfl (fun Hq hq => Y.pick_f rfl rfl rfl) hqn32 ?_
      exact J58 _ (congrArg (fun b => some (Value.bool b)) (by simp [g58])) (Sb.c rfl (Sb.c rfl (Sb.c rfl (Sb.c rfl (Sb.c rfl (Sb.c rfl (Sb.c rfl (Sb.c rfl (Sb.c rfl (Sb.c rfl (Sb.b rfl (congrArg Value.bool (decide_eq_false g58).symm))))))))))))
    refine LH.o1 56 ?_
    refine LO.call rfl rfl c'46 rfl (Wd.u rfl) rfl rfl (rmust_to (argB x) 1 (by first | exact argJ g29 | exact argT g29 g35 g40 g46 g51 g58 g61 | exact argS g29 g35 g40 g46 g51 g58 g61 | exact (decide_eq_false (by rintro ⟨h1, h2, h3, h4, h5, h6, h7⟩; first | (exact absurd h1 (by assumption)) | (exact absurd h2 (by assumption)) | omega)).symm) w0 _) (fun v69 H69 r69 => ?_)
    obtain ⟨rfl, hs69⟩ := r69
    replace hcm6 := hcm6.tr hs69
    have hz6 := hs69.size
    have hq69 := hqn32.tr hs69
    refine ⟨.inr hq69, LH.narrow (SH2 := fun Hq => Nw H69 Hq) (fun Hq hq => hq69.tr hq) ?_⟩
    have hqn69 := Nw.refl H69
    refine LH.o1 59 ?_
    refine LO.call rfl rfl c'46 rfl (Wd.u rfl) rfl rfl (rmust_to (decide (x.td.length ≤ 100)) 4 (by first | (exact (decide_eq_true (by omega)).symm) | (exact (decide_eq_false (by omega)).symm) | (exact decide_eq_decide.2 (by omega))) w0 _) (fun v72 H72 r72 => ?_)
    obtain ⟨rfl, hs72⟩ := r72
    replace hcm6 := hcm6.tr hs72
    have hz7 := hs72.size
    have hq72 := hqn69.tr hs72
    refine ⟨.inr hq72, LH.narrow (SH2 := fun Hq => Nw H72 Hq) (fun Hq hq => hq72.tr hq) ?_⟩
    have hqn72 := Nw.refl H72
    refine LH.o1 60 ?_
    refine LO.z rfl (Z.litw _ ([mustL (decide (x.k = 1 ∨ x.k = 2)) 3, chk x.br, mustL (argB x) 1, mustL (decide (x.td.length ≤ 100)) 4]) rfl inf244 rfl rfl rfl (by decide) (by decide) fI_len fI_one (rfl)) (Wd.u rfl) rfl rfl (fun v73 H73 r73 => ?_)
    obtain ⟨ow73, hs73, ob73, hH73⟩ := r73
    have hzs73 : H73.size = H72.size + 1 := by rw [hH73]; simp
    replace hcm6 := hcm6.tr hs73
    have hz8 := hs73.size
    have hq73 := hqn72.tr hs73
    refine ⟨.inr hq73, LH.narrow (SH2 := fun Hq => Nw H73 Hq) (fun Hq hq => hq73.tr hq) ?_⟩
    have hqn73 := Nw.refl H73
    refine LH.o1 61 ?_
    refine LO.call rfl rfl c'47 rfl (Wd.u rfl) rfl rfl (rfirst_ct _ [mustL (decide (x.k = 1 ∨ x.k = 2)) 3, chk x.br, mustL (argB x) 1, mustL (decide (x.td.length ≤ 100)) 4] w0 _ ow73.rd.any) (fun v74 H74 r74 => ?_)
    obtain ⟨rfl, hs74⟩ := r74
    replace hcm6 := hcm6.tr hs74
    have hz9 := hs74.size
    have hq74 := hqn73.tr hs74
    refine ⟨.inr hq74, LH.narrow (SH2 := fun Hq => Nw H74 Hq) (fun Hq hq => hq74.tr hq) ?_⟩
    have hqn74 := Nw.refl H74
    refine LH.t1 62 rfl (fun Hq hq => Y.assign rfl rfl) hqn74 ?_
    refine LH.done (by kernel_rfl) ?_
    have hqe := hqn74
    refine QN.sub (hK6 (headE x) _ ?_) ⟨rfl, rfl, trivial⟩
    exact ⟨rfl, hcm6⟩
   ·
    refine LH.g1 17 rfl rfl rfl rfl hqn27 ?_
    refine LH.g1 18 rfl rfl rfl rfl hqn27 ?_
    refine LH.g1 19 rfl rfl rfl rfl hqn27 ?_
    refine LH.g1 20 rfl rfl rfl rfl hqn27 ?_
    refine LH.t1 21 rfl (fun Hq hq => Y.pick_f rfl rfl rfl) hqn27 ?_
    refine LH.m1 22 rfl hqn27 ?_
    refine LH.g1 23 rfl rfl rfl rfl hqn27 ?_
    refine LH.g1 24 rfl rfl rfl rfl hqn27 ?_
    refine LH.g1 25 rfl rfl rfl rfl hqn27 ?_
    refine LH.t1 26 rfl (fun Hq hq => Y.pick_f rfl rfl rfl) hqn27 ?_
    refine LH.m1 27 rfl hqn27 ?_
    refine LH.g1 28 rfl rfl rfl rfl hqn27 ?_
    refine LH.g1 29 rfl rfl rfl rfl hqn27 ?_
    refine LH.g1 30 rfl rfl rfl rfl hqn27 ?_
    refine LH.g1 31 rfl rfl rfl rfl hqn27 ?_
    refine LH.t1 32 rfl (fun Hq hq => Y.pick_f rfl rfl rfl) hqn27 ?_
    refine LH.m1 33 rfl hqn27 ?_
    refine LH.g1 34 rfl rfl rfl rfl hqn27 ?_
    refine LH.g1 35 rfl rfl rfl rfl hqn27 ?_
    refine LH.g1 36 rfl rfl rfl rfl hqn27 ?_
    refine LH.t1 37 rfl (fun Hq hq => Y.pick_f rfl rfl rfl) hqn27 ?_
    refine LH.m1 38 rfl hqn27 ?_
    refine LH.g1 39 rfl rfl rfl rfl hqn27 ?_
    refine LH.g1 40 rfl rfl rfl rfl hqn27 ?_
    refine LH.g1 41 rfl rfl rfl rfl hqn27 ?_
    refine LH.g1 42 rfl rfl rfl rfl hqn27 ?_
    refine LH.g1 43 rfl rfl rfl rfl hqn27 ?_
    refine LH.t1 44 rfl (fun Hq hq => Y.pick_f rfl rfl rfl) hqn27 ?_
    refine LH.m1 45 rfl hqn27 ?_
    refine LH.g1 46 rfl rfl rfl rfl hqn27 ?_
    refine LH.g1 47 rfl rfl rfl rfl hqn27 ?_
    refine LH.g1 48 rfl rfl rfl rfl hqn27 ?_
    refine LH.gu1 49 rfl rfl rfl rfl hqn27 ?_
    refine LH.gu1 50 rfl rfl rfl rfl hqn27 ?_
    refine LH.gu1 51 rfl rfl rfl rfl hqn27 ?_
    refine LH.gu1 52 rfl rfl rfl rfl hqn27 ?_
    refine LH.g1 53 rfl rfl rfl rfl hqn27 ?_
    refine LH.g1 54 rfl rfl rfl rfl hqn27 ?_
    refine LH.t1 55 rfl (fun Hq hq => Y.pick_f rfl rfl rfl) hqn27 ?_
    refine LH.o1 56 ?_
    refine LO.call rfl rfl c'46 rfl (Wd.u rfl) rfl rfl (rmust_to (argB x) 1 (by first | exact argJ g29 | exact argT g29 g35 g40 g46 g51 g58 g61 | exact argS g29 g35 g40 g46 g51 g58 g61 | exact (decide_eq_false (by rintro ⟨h1, h2, h3, h4, h5, h6, h7⟩; first | (exact absurd h1 (by assumption)) | (exact absurd h2 (by assumption)) | omega)).symm) w0 _) (fun v69 H69 r69 => ?_)
    obtain ⟨rfl, hs69⟩ := r69
    replace hcm6 := hcm6.tr hs69
    have hz10 := hs69.size
    have hq69 := hqn27.tr hs69
    refine ⟨.inr hq69, LH.narrow (SH2 := fun Hq => Nw H69 Hq) (fun Hq hq => hq69.tr hq) ?_⟩
    have hqn69 := Nw.refl H69
    refine LH.o1 59 ?_
    refine LO.call rfl rfl c'46 rfl (Wd.u rfl) rfl rfl (rmust_to (decide (x.td.length ≤ 100)) 4 (by first | (exact (decide_eq_true (by omega)).symm) | (exact (decide_eq_false (by omega)).symm) | (exact decide_eq_decide.2 (by omega))) w0 _) (fun v72 H72 r72 => ?_)
    obtain ⟨rfl, hs72⟩ := r72
    replace hcm6 := hcm6.tr hs72
    have hz11 := hs72.size
    have hq72 := hqn69.tr hs72
    refine ⟨.inr hq72, LH.narrow (SH2 := fun Hq => Nw H72 Hq) (fun Hq hq => hq72.tr hq) ?_⟩
    have hqn72 := Nw.refl H72
    refine LH.o1 60 ?_
    refine LO.z rfl (Z.litw _ ([mustL (decide (x.k = 1 ∨ x.k = 2)) 3, chk x.br, mustL (argB x) 1, mustL (decide (x.td.length ≤ 100)) 4]) rfl inf244 rfl rfl rfl (by decide) (by decide) fI_len fI_one (rfl)) (Wd.u rfl) rfl rfl (fun v73 H73 r73 => ?_)
    obtain ⟨ow73, hs73, ob73, hH73⟩ := r73
    have hzs73 : H73.size = H72.size + 1 := by rw [hH73]; simp
    replace hcm6 := hcm6.tr hs73
    have hz12 := hs73.size
    have hq73 := hqn72.tr hs73
    refine ⟨.inr hq73, LH.narrow (SH2 := fun Hq => Nw H73 Hq) (fun Hq hq => hq73.tr hq) ?_⟩
    have hqn73 := Nw.refl H73
    refine LH.o1 61 ?_
    refine LO.call rfl rfl c'47 rfl (Wd.u rfl) rfl rfl (rfirst_ct _ [mustL (decide (x.k = 1 ∨ x.k = 2)) 3, chk x.br, mustL (argB x) 1, mustL (decide (x.td.length ≤ 100)) 4] w0 _ ow73.rd.any) (fun v74 H74 r74 => ?_)
    obtain ⟨rfl, hs74⟩ := r74
    replace hcm6 := hcm6.tr hs74
    have hz13 := hs74.size
    have hq74 := hqn73.tr hs74
    refine ⟨.inr hq74, LH.narrow (SH2 := fun Hq => Nw H74 Hq) (fun Hq hq => hq74.tr hq) ?_⟩
    have hqn74 := Nw.refl H74
    refine LH.t1 62 rfl (fun Hq hq => Y.assign rfl rfl) hqn74 ?_
    refine LH.done (by kernel_rfl) ?_
    have hqe := hqn74
    refine QN.sub (hK6 (headE x) _ ?_) ⟨rfl, rfl, trivial⟩
    exact ⟨rfl, hcm6⟩
  ·
   intro e0 Hcutr4 hIcutr4
   obtain ⟨he0, hlmcutr4⟩ := hIcutr4
   replace hl := hl.nw hlmcutr4
   replace va := va.nw hlmcutr4
   replace hm0 := hm0.tr hlmcutr4
   have hz14 := hlmcutr4.size
   refine CW.s1 (fun hK7 => CW.s1 (fun hK8 => CW.region ?_))
   refine LR.v1 (Y.FA va.pt rfl u'29 rfl s'27) ?_
   refine LR.v1 (Y.load1 va.pt.sq66 rfl a'27 rfl) ?_
   refine LR.v1 (Y.len hl rfl u'27 rfl) ?_
   refine LR.m1 (LR.nil (hK8 _ _ ?_))
   refine CW.block (fun _ _ hX9 _ => ?_)
   refine CW.loop (fun (s_ : (Nat) × (Int)) => match s_ with | (i, e) => [(4, .int .i64 e), (76, x.tv.v), (77, .int .i64 x.td.length), (78, .int .i64 i)])
    (fun (s_ : (Nat) × (Int)) (H : Heap) => match s_ with | (i, e) => (i ≤ x.td.length) ∧ (e = if headE x ≠ 0 then headE x else todoE (x.td.take i)) ∧ Nw Hcutr4 H)
    (fun (s_ : (Nat) × (Int)) => match s_ with | (i, e) => x.td.length - i) (0, e0) ⟨rfl, rfl, rfl, rfl, trivial⟩ ?_ ?_
   ·
    exact ⟨(by omega), (by rw [he0]; split; rfl; rename_i h; simpa [todoE] using h), Mo.refl _ _⟩
   rintro ⟨i, e⟩ HL1 hI1 K10 hN10 hE10
   obtain ⟨hi, he, hlm1⟩ := hI1
   replace hl := hl.nw hlm1
   replace hm0 := hm0.tr hlm1
   have hz15 := hlm1.size
   refine CW.s1 (fun hK11 => CW.region ?_)
   refine LR.v1 (Y.lss rfl rfl rfl) (LR.nil (hK11 _ _ ?_))
   refine CW.s2 (fun hK12 hE12 => ?_)
   refine CW.condp rfl (fun c79 => ?_) (fun c79 => ?_)
   ·
    refine CW.skip (hK12 _ _ (CW.s1 (fun hK13 => CW.block (fun _ hK14 _ _ => CW.s1 (fun hK15 => CW.region ?_)))))
    have hil : i < x.td.length := by omega
    obtain ⟨t, ht⟩ : ∃ t, t = x.td[i] := ⟨_, rfl⟩
    refine LR.e1 (g := fun ad => .pointer (some ad)) (Y.iF hl (i) rfl u'27 s'129 rfl rfl) fun ad80 pt80 => ?_
    refine LR.v1 (Y.cast (v2 := .agg (fTd t).toArray) (Y.loadN pt80.pt rfl a'129 s'129 (fTd_len _) rfl) (by rw [ht])) ?_
    refine LR.z1 (Z.allocv rfl z'129) fun v6 H6 r6 => ?_
    obtain ⟨rfl, vt, hs6, ob6, hH6⟩ := r6
    have hzs6 : H6.size = HL1.size + 1 := by rw [hH6]; simp
    have nx18 : Nx 0 Hcutr4.size (HL1.size + 1) := Nx.new hlm1.size
    replace hlm1 := hlm1.tr hs6
    have hz16 := hs6.size
    refine LR.s1 (S.var vt (_) (fTd t) rfl rfl rfl rfl (fTd_one t) s'129 (fTd_len _) (by decide) ((splice_all2 (fTd_len _).symm))) fun H7_3 r7_3 => ?_
    obtain ⟨vt, hs7_3⟩ := r7_3
    replace hs7_3 := hs7_3.md1
    replace hlm1 := hlm1.tq hs7_3 (MIL.o (MI.q nx18))
    have hz17 := hs7_3.size
    refine LR.nil (hK15 _ _ ?_)
    refine CW.region_any (fun Hq => Nw H7_3 Hq) [] rfl ?_
    have hqs := Nw.refl H7_3
    refine LH.m1 0 rfl hqs ?_
    refine LH.t1 1 rfl (fun Hq hq => Y.FA (vt.pt.nw hq) rfl u'129 rfl s'3) hqs ?_
    refine LH.t1 2 rfl (fun Hq hq => Y.load1 (vt.pt.nw hq) rfl a'3 rfl) hqs ?_
    refine LH.t1 3 rfl (fun Hq hq => Y.geq rfl rfl rfl) hqs ?_
    refine LH.m1 4 rfl hqs ?_
    refine LH.splitp (d := 86) rfl (fun g86 => ?_) (fun g86 => ?_)
    ·
     refine LH.u1 5 rfl (fun Hq hq => Y.FA (vt.pt.nw hq) rfl u'129 rfl s'3) (Wd.g rfl rfl rfl) hqs ?_
     refine LH.u1 6 rfl (fun Hq hq => Y.load1 (vt.pt.nw hq) rfl a'3 rfl) (Wd.g rfl rfl rfl) hqs ?_
     refine LH.u1 7 rfl (fun Hq hq => Y.leq rfl rfl rfl) (Wd.g rfl rfl rfl) hqs ?_
     refine LH.t1 8 rfl (fun Hq hq => Y.pick_t rfl rfl rfl) hqs ?_
     refine LH.t1 10 rfl (fun Hq hq => Y.FA (vt.pt.nw hq) rfl u'129 rfl s'26) hqs ?_
     refine LH.t1 11 rfl (fun Hq hq => Y.cast (v2 := vA t.i) (Y.loadN (((vt.pt.drop 1).nw hq).take 32) rfl a'26 s'26 (by rw [fTd_i]; exact fA_len _) rfl) (congrArg (fun z : List Value => Value.agg z.toArray) (fTd_i _))) hqs ?_
     refine LH.o1 9 ?_
     refine LO.call rfl rfl c'46 rfl (Wd.u rfl) rfl rfl (rmust_to (decide (1 ≤ t.d ∧ t.d ≤ 3)) 3 (by first | (exact (decide_eq_true (by omega)).symm) | (exact (decide_eq_false (by omega)).symm) | (exact decide_eq_decide.2 (by omega))) w0 _) (fun v91 H91 r91 => ?_)
     obtain ⟨rfl, hs91⟩ := r91
     replace hlm1 := hlm1.tr hs91
     have hz18 := hs91.size
     have hq91 := hqs.tr hs91
     refine ⟨.inr hq91, LH.narrow (SH2 := fun Hq => Nw H91 Hq) (fun Hq hq => hq91.tr hq) ?_⟩
     have hqn91 := Nw.refl H91
     refine LH.o1 12 ?_
     refine LO.call rfl rfl c'55 rfl (Wd.u rfl) rfl rfl (rnone_ct t.i w0 _) (fun v94 H94 r94 => ?_)
     obtain ⟨rfl, hs94⟩ := r94
     replace hlm1 := hlm1.tr hs94
     have hz19 := hs94.size
     have hq94 := hqn91.tr hs94
     refine ⟨.inr hq94, LH.narrow (SH2 := fun Hq => Nw H94 Hq) (fun Hq hq => hq94.tr hq) ?_⟩
     have hqn94 := Nw.refl H94
     refine LH.t1 13 rfl (fun Hq hq => Y.notp rfl rfl) hqn94 ?_
     refine LH.o1 14 ?_
     refine LO.call rfl rfl c'46 rfl (Wd.u rfl) rfl rfl (rmust_to (decide (¬ t.i = Zid)) 1 rfl w0 _) (fun v96 H96 r96 => ?_)
     obtain ⟨rfl, hs96⟩ := r96
     replace hlm1 := hlm1.tr hs96
     have hz20 := hs96.size
     have hq96 := hqn94.tr hs96
     refine ⟨.inr hq96, LH.narrow (SH2 := fun Hq => Nw H96 Hq) (fun Hq hq => hq96.tr hq) ?_⟩
     have hqn96 := Nw.refl H96
     refine LH.o1 15 ?_
     refine LO.z rfl (Z.litw _ ([e, mustL (decide (1 ≤ t.d ∧ t.d ≤ 3)) 3, mustL (decide (¬ t.i = Zid)) 1]) rfl inf244 rfl rfl rfl (by decide) (by decide) fI_len fI_one (rfl)) (Wd.u rfl) rfl rfl (fun v97 H97 r97 => ?_)
     obtain ⟨ow97, hs97, ob97, hH97⟩ := r97
     have hzs97 : H97.size = H96.size + 1 := by rw [hH97]; simp
     replace hlm1 := hlm1.tr hs97
     have hz21 := hs97.size
     have hq97 := hqn96.tr hs97
     refine ⟨.inr hq97, LH.narrow (SH2 := fun Hq => Nw H97 Hq) (fun Hq hq => hq97.tr hq) ?_⟩
     have hqn97 := Nw.refl H97
     refine LH.o1 16 ?_
     refine LO.call rfl rfl c'47 rfl (Wd.u rfl) rfl rfl (rfirst_ct _ [e, mustL (decide (1 ≤ t.d ∧ t.d ≤ 3)) 3, mustL (decide (¬ t.i = Zid)) 1] w0 _ ow97.rd.any) (fun v98 H98 r98 => ?_)
     obtain ⟨rfl, hs98⟩ := r98
     replace hlm1 := hlm1.tr hs98
     have hz22 := hs98.size
     rw [step_first]
     have hq98 := hqn97.tr hs98
     refine ⟨.inr hq98, LH.narrow (SH2 := fun Hq => Nw H98 Hq) (fun Hq hq => hq98.tr hq) ?_⟩
     have hqn98 := Nw.refl H98
     refine LH.t1 17 rfl (fun Hq hq => Y.assign rfl rfl) hqn98 ?_
     refine LH.done (by kernel_rfl) ?_
     have hqe := hqn98
     refine hK14 _ _ (hK13 _ _ (CW.region ?_))
     refine LR.v1 (Y.addi rfl rfl rfl (by omega)) ?_
     refine LR.m1 (LR.nil ?_)
     refine QN.sub (hN10 (i + 1, if e ≠ 0 then e else stepE t) _ ?_ ?_) ⟨(iv (by omega)), rfl, (iv (by omega)), (iv (by omega)), trivial⟩
     · exact ⟨(by omega), (by rw [he, todoE_take hil, ← ht]; split <;> simp_all), hlm1⟩
     · first | omega | (simp only; omega) | (simp; omega)
    ·
     refine LH.g1 5 rfl rfl rfl rfl hqs ?_
     refine LH.g1 6 rfl rfl rfl rfl hqs ?_
     refine LH.g1 7 rfl rfl rfl rfl hqs ?_
     refine LH.t1 8 rfl (fun Hq hq => Y.pick_f rfl rfl rfl) hqs ?_
     refine LH.t1 10 rfl (fun Hq hq => Y.FA (vt.pt.nw hq) rfl u'129 rfl s'26) hqs ?_
     refine LH.t1 11 rfl (fun Hq hq => Y.cast (v2 := vA t.i) (Y.loadN (((vt.pt.drop 1).nw hq).take 32) rfl a'26 s'26 (by rw [fTd_i]; exact fA_len _) rfl) (congrArg (fun z : List Value => Value.agg z.toArray) (fTd_i _))) hqs ?_
     refine LH.o1 9 ?_
     refine LO.call rfl rfl c'46 rfl (Wd.u rfl) rfl rfl (rmust_to (decide (1 ≤ t.d ∧ t.d ≤ 3)) 3 (by first | (exact (decide_eq_true (by omega)).symm) | (exact (decide_eq_false (by omega)).symm) | (exact decide_eq_decide.2 (by omega))) w0 _) (fun v91 H91 r91 => ?_)
     obtain ⟨rfl, hs91⟩ := r91
     replace hlm1 := hlm1.tr hs91
     have hz23 := hs91.size
     have hq91 := hqs.tr hs91
     refine ⟨.inr hq91, LH.narrow (SH2 := fun Hq => Nw H91 Hq) (fun Hq hq => hq91.tr hq) ?_⟩
     have hqn91 := Nw.refl H91
     refine LH.o1 12 ?_
     refine LO.call rfl rfl c'55 rfl (Wd.u rfl) rfl rfl (rnone_ct t.i w0 _) (fun v94 H94 r94 => ?_)
     obtain ⟨rfl, hs94⟩ := r94
     replace hlm1 := hlm1.tr hs94
     have hz24 := hs94.size
     have hq94 := hqn91.tr hs94
     refine ⟨.inr hq94, LH.narrow (SH2 := fun Hq => Nw H94 Hq) (fun Hq hq => hq94.tr hq) ?_⟩
     have hqn94 := Nw.refl H94
     refine LH.t1 13 rfl (fun Hq hq => Y.notp rfl rfl) hqn94 ?_
     refine LH.o1 14 ?_
     refine LO.call rfl rfl c'46 rfl (Wd.u rfl) rfl rfl (rmust_to (decide (¬ t.i = Zid)) 1 rfl w0 _) (fun v96 H96 r96 => ?_)
     obtain ⟨rfl, hs96⟩ := r96
     replace hlm1 := hlm1.tr hs96
     have hz25 := hs96.size
     have hq96 := hqn94.tr hs96
     refine ⟨.inr hq96, LH.narrow (SH2 := fun Hq => Nw H96 Hq) (fun Hq hq => hq96.tr hq) ?_⟩
     have hqn96 := Nw.refl H96
     refine LH.o1 15 ?_
     refine LO.z rfl (Z.litw _ ([e, mustL (decide (1 ≤ t.d ∧ t.d ≤ 3)) 3, mustL (decide (¬ t.i = Zid)) 1]) rfl inf244 rfl rfl rfl (by decide) (by decide) fI_len fI_one (rfl)) (Wd.u rfl) rfl rfl (fun v97 H97 r97 => ?_)
     obtain ⟨ow97, hs97, ob97, hH97⟩ := r97
     have hzs97 : H97.size = H96.size + 1 := by rw [hH97]; simp
     replace hlm1 := hlm1.tr hs97
     have hz26 := hs97.size
     have hq97 := hqn96.tr hs97
     refine ⟨.inr hq97, LH.narrow (SH2 := fun Hq => Nw H97 Hq) (fun Hq hq => hq97.tr hq) ?_⟩
     have hqn97 := Nw.refl H97
     refine LH.o1 16 ?_
     refine LO.call rfl rfl c'47 rfl (Wd.u rfl) rfl rfl (rfirst_ct _ [e, mustL (decide (1 ≤ t.d ∧ t.d ≤ 3)) 3, mustL (decide (¬ t.i = Zid)) 1] w0 _ ow97.rd.any) (fun v98 H98 r98 => ?_)
     obtain ⟨rfl, hs98⟩ := r98
     replace hlm1 := hlm1.tr hs98
     have hz27 := hs98.size
     rw [step_first]
     have hq98 := hqn97.tr hs98
     refine ⟨.inr hq98, LH.narrow (SH2 := fun Hq => Nw H98 Hq) (fun Hq hq => hq98.tr hq) ?_⟩
     have hqn98 := Nw.refl H98
     refine LH.t1 17 rfl (fun Hq hq => Y.assign rfl rfl) hqn98 ?_
     refine LH.done (by kernel_rfl) ?_
     have hqe := hqn98
     refine hK14 _ _ (hK13 _ _ (CW.region ?_))
     refine LR.v1 (Y.addi rfl rfl rfl (by omega)) ?_
     refine LR.m1 (LR.nil ?_)
     refine QN.sub (hN10 (i + 1, if e ≠ 0 then e else stepE t) _ ?_ ?_) ⟨(iv (by omega)), rfl, (iv (by omega)), (iv (by omega)), trivial⟩
     · exact ⟨(by omega), (by rw [he, todoE_take hil, ← ht]; split <;> simp_all), hlm1⟩
     · first | omega | (simp only; omega) | (simp; omega)
   ·
    refine CW.exit (hE12 (.exit 0) nofun _ _ (hE10 (.exit 0) nofun _ _ (hX9 _ _ ?_)))
    refine hK7 _ _ (CW.s1 (fun hK16 => CW.region ?_))
    refine LR.m1 ?_
    refine LR.a1 (LR.nil (hK16 _ _ ?_))
    refine CW.ret (hret .ret (.inr rfl) _ _ _ (res1 rfl rfl) ?_)
    exact ⟨by rw [if_pos c9, he, seqE_head, List.take_of_length_le (by omega)], hm0⟩
end Go.Proofs.YtfjmpninmdjcaaaGreatDoor.RefB

namespace Go.Proofs.YtfjmpninmdjcaaaGreatDoor.E
abbrev Pth := List UInt8
def blt (a b : Pth) : Prop := Op.bytesLess a b = true
instance (a b : Pth) : Decidable (blt a b) := inferInstanceAs (Decidable (_ = _))
theorem blt_irr (a : Pth) : ¬ blt a a := by
 unfold blt
 induction a with
 | nil => simp [Op.bytesLess]
 | cons x a ih => simp only [Op.bytesLess]; simpa using ih
theorem blt_total : ∀ {a b : Pth}, ¬ blt a b → ¬ blt b a → a = b
 | [], [], _, _ => rfl
 | [], _ :: _, h, _ => by simp [blt, Op.bytesLess] at h
 | _ :: _, [], _, h => by simp [blt, Op.bytesLess] at h
 | x :: a, y :: b, h1, h2 => by
   simp only [blt, Op.bytesLess] at h1 h2
   by_cases e1 : x < y
   · simp [e1] at h1
   · by_cases e2 : y < x
     · simp [e2] at h2
     · have : x = y := by apply UInt8.toNat.inj; rw [UInt8.lt_iff_toNat_lt] at e1 e2; omega
       subst this
       rw [blt_total (a := a) (b := b) (by simpa [blt] using h1) (by simpa [blt] using h2)]
theorem blt_trans : ∀ {a b c : Pth}, blt a b → blt b c → blt a c
 | [], [], _, h, _ => by simp [blt, Op.bytesLess] at h
 | _ :: _, [], _, h, _ => by simp [blt, Op.bytesLess] at h
 | _, _ :: _, [], _, h => by simp [blt, Op.bytesLess] at h
 | [], _ :: _, _ :: _, _, _ => by simp [blt, Op.bytesLess]
 | x :: a, y :: b, z :: c, h1, h2 => by
   simp only [blt, Op.bytesLess, Bool.or_eq_true, decide_eq_true_eq, Bool.and_eq_true, beq_iff_eq] at h1 h2 ⊢
   rcases h1 with h1 | ⟨rfl, h1⟩
   · rcases h2 with h2 | ⟨rfl, h2⟩
     · left; rw [UInt8.lt_iff_toNat_lt] at *; omega
     · exact .inl h1
   · rcases h2 with h2 | ⟨rfl, h2⟩
     · exact .inl h2
     · exact .inr ⟨rfl, blt_trans h1 h2⟩
theorem blt_asym {a b : Pth} (h : blt a b) : ¬ blt b a := fun h2 => blt_irr a (blt_trans h h2)
theorem blt_ne {a b : Pth} (h : blt a b) : a ≠ b := fun e => by subst e; exact blt_irr a h
def Rise (l : List Pth) : Prop := l.Pairwise blt
theorem rise_nodup {l : List Pth} (h : Rise l) : l.Nodup := by
 rw [List.nodup_iff_pairwise_ne]; exact h.imp (fun h => blt_ne h)
abbrev Nms := List (Pth × Nat)
def Asc (l : Nms) : Prop := l.Pairwise (fun x y => blt x.1 y.1)
theorem Asc.rise {l : Nms} (h : Asc l) : Rise (l.map (·.1)) := by unfold Rise; rw [List.pairwise_map]; exact h
theorem Asc.nodup {l : Nms} (h : Asc l) : (l.map (·.1)).Nodup := rise_nodup h.rise
theorem Asc.filter {l : Nms} (h : Asc l) (p : Pth × Nat → Bool) : Asc (l.filter p) := List.Pairwise.filter _ h
def nput : Nms → Pth → Nat → Nms
 | [], p, i => [(p, i)]
 | x :: l, p, i => if blt x.1 p then x :: nput l p i else if x.1 = p then (p, i) :: l else (p, i) :: x :: l
theorem mget_nput (l : Nms) (p : Pth) (i : Nat) (q : Pth) : mget (nput l p i) q = if q = p then some i else mget l q := by
 induction l with
 | nil => simp [nput, mget]
 | cons x l ih =>
   unfold nput
   split
   · rename_i h
     simp only [mget, ih]
     by_cases hq : q = x.1
     · have : ¬ q = p := fun e => blt_ne h (by rw [← hq, e])
       rw [if_pos hq, if_pos hq, if_neg this]
     · rw [if_neg hq, if_neg hq]
   · split
     · rename_i h1 h2
       simp only [mget]
       by_cases hq : q = p
       · simp [hq]
       · rw [if_neg hq, if_neg hq, if_neg (fun e => hq (e.trans h2))]
     · simp only [mget]
theorem mem_nput {l : Nms} {p : Pth} {i : Nat} {x : Pth × Nat} (h : x ∈ nput l p i) : x = (p, i) ∨ x ∈ l := by
 induction l with
 | nil => simp [nput] at h; exact .inl h
 | cons y l ih =>
   unfold nput at h
   split at h
   · rcases List.mem_cons.1 h with e | h
     · exact .inr (by rw [e]; exact List.mem_cons_self)
     · rcases ih h with e | h
       · exact .inl e
       · exact .inr (List.mem_cons_of_mem _ h)
   · split at h
     · rcases List.mem_cons.1 h with e | h
       · exact .inl e
       · exact .inr (List.mem_cons_of_mem _ h)
     · rcases List.mem_cons.1 h with e | h
       · exact .inl e
       · exact .inr h
theorem asc_nput {l : Nms} (h : Asc l) (p : Pth) (i : Nat) : Asc (nput l p i) := by
 induction l with
 | nil => exact List.pairwise_singleton _ _
 | cons x l ih =>
   unfold Asc at h ⊢
   rw [List.pairwise_cons] at h
   unfold nput
   split
   · rename_i h1
     rw [List.pairwise_cons]
     refine ⟨fun y hy => ?_, ih h.2⟩
     rcases mem_nput hy with e | hy
     · rw [e]; exact h1
     · exact h.1 y hy
   · rename_i h1
     split
     · rename_i h2
       rw [List.pairwise_cons]
       exact ⟨fun y hy => by rw [← h2]; exact h.1 y hy, h.2⟩
     · rename_i h2
       have h3 : blt p x.1 := Classical.byContradiction (fun h3 => h2 (blt_total h1 h3))
       rw [List.pairwise_cons]
       refine ⟨fun y hy => ?_, List.pairwise_cons.2 h⟩
       rcases List.mem_cons.1 hy with e | hy
       · rw [e]; exact h3
       · exact blt_trans h3 (h.1 y hy)
theorem asc_del {l : Nms} (h : Asc l) (p : Pth) : Asc (mdel l p) := List.Pairwise.filter _ h
theorem mget_filter {l : Nms} {f : Pth → Bool} (p : Pth) : mget (l.filter (fun x => f x.1)) p = if f p = true then mget l p else none := by
 induction l with
 | nil => simp [mget]
 | cons x l ih =>
   by_cases hx : f x.1 = true
   · rw [List.filter_cons_of_pos (by simpa using hx)]
     simp only [mget, ih]
     by_cases hp : p = x.1
     · rw [if_pos hp, if_pos hp, hp, if_pos hx]
     · rw [if_neg hp, if_neg hp]
   · rw [List.filter_cons_of_neg (by simpa using hx), ih]
     simp only [mget]
     by_cases hp : p = x.1
     · rw [hp, if_neg hx, if_neg hx]
     · rw [if_neg hp]
def okc (c : UInt8) : Bool := (97 ≤ c && c ≤ 122) || (48 ≤ c && c ≤ 57) || c == 46 || c == 95 || c == 45 || c == 47
def slk (p : Pth) : Bool := (List.range p.length).all (fun i => !(p.getD i 0 == 47 && (i == 0 || i == p.length - 1 || p.getD (i - 1) 0 == 47)))
def nameB (p : Pth) : Bool := decide (1 ≤ p.length) && decide (p.length ≤ 100) && p.all okc && slk p
def headP (p : Pth) : Pth := p.take (p.length - 1 - (p.reverse.takeWhile (fun c => c ≠ 47)).length)
def dirP (p : Pth) : Pth := if nameB p = true then headP p else []
structure Chg where
 g : Pth
 n : Pth
 f : Option Nat
 deriving DecidableEq
def Chg.ap (c : Chg) (l : Nms) : Nms :=
 let l1 := if c.g = [] then l else mdel l c.g
 match c.f with
 | none => l1
 | some i => nput l1 c.n i
def Chg.dir (c : Chg) : Pth := dirP (if c.g = [] then c.n else c.g)
def apl (cs : List Chg) (l : Nms) : Nms := cs.foldl (fun l c => c.ap l) l
theorem asc_ap {l : Nms} (h : Asc l) (c : Chg) : Asc (c.ap l) := by
 unfold Chg.ap
 have h1 : Asc (if c.g = [] then l else mdel l c.g) := by split; exact h; exact asc_del h _
 cases c.f with
 | none => exact h1
 | some i => exact asc_nput h1 _ _
def Chg.at (c : Chg) (q : Pth) (o : Option Nat) : Option Nat :=
 match c.f with
 | none => if c.g ≠ [] ∧ q = c.g then none else o
 | some i => if q = c.n then some i else if c.g ≠ [] ∧ q = c.g then none else o
theorem mget_ap (c : Chg) (l : Nms) (q : Pth) : mget (c.ap l) q = c.at q (mget l q) := by
 unfold Chg.ap Chg.at
 cases c.f with
 | none =>
   simp only
   by_cases hg : c.g = []
   · simp [hg]
   · rw [if_neg hg, mget_del]; simp [hg]
 | some i =>
   simp only
   rw [mget_nput]
   by_cases hg : c.g = []
   · simp [hg]
   · rw [if_neg hg, mget_del]; simp [hg]
structure Wr where
 b : Bool
 d : List UInt8
 deriving DecidableEq, Inhabited
structure Fdt where
 now : List UInt8
 stays : List UInt8
 w : List Wr
 deriving DecidableEq, Inhabited
def Wr.on (w : Wr) (b : List UInt8) (n : Nat) : List UInt8 := (if w.b = true then b else []) ++ w.d.take n
def Wr.ways (w : Wr) : Nat := max 1 (2 * w.d.length)
def Wr.part (w : Wr) (b : List UInt8) (way : Nat) : List UInt8 :=
 if way < w.d.length ∨ w.d.length = 0 then w.on b (min (way + 1) w.d.length) else w.on b (way - w.d.length) ++ List.replicate (w.d.length - (way - w.d.length)) 0
def waysF (ws : List Wr) : Nat := 1 + (ws.map Wr.ways).sum
def wayW : List Wr → List UInt8 → Nat → List UInt8
 | [], b, _ => b
 | w :: ws, b, k => if k = 0 then b else if k ≤ w.ways then w.part b (k - 1) else wayW ws (w.on b w.d.length) (k - w.ways)
def onAll (ws : List Wr) (b : List UInt8) : List UInt8 := ws.foldl (fun b w => w.on b w.d.length) b
structure Dk where
 cap : Nat
 most : Nat
 fs : List Fdt
 now : Nms
 stays : Nms
 log : List Chg
 ops : Nat
 left : Nat
 dead : Bool
def fget (fs : List Fdt) (i : Nat) : Fdt := fs.getD i ⟨[], [], []⟩
def Dk.empty (cap most : Nat) : Dk := ⟨cap, most, [], [], [], [], 0, 0, false⟩
def Dk.begin (d : Dk) : Bool × Dk :=
 if d.dead = true then (false, d)
 else if d.left = 1 then (false, { d with left := 0, dead := true })
 else (true, { d with left := d.left - 1, ops := d.ops + 1 })
def Dk.look (d : Dk) (p : Pth) : Nat := if nameB p = true then (if (mget d.now p).isSome then 0 else 2) else 7
def usedL (fs : List Fdt) (l : Nms) : Nat := (l.map (fun x => (fget fs x.2).now.length)).sum
def Dk.used (d : Dk) : Nat := usedL d.fs d.now
def Dk.chgs (d : Dk) (n : Pth) : List Chg := d.log.filter (fun c => c.dir = n)
def Dk.change (d : Dk) (c : Chg) : Dk := { d with now := c.ap d.now, log := d.log ++ [c] }
def Dk.make (d : Dk) (p : Pth) : Dk × Nat := match mget d.now p with
 | some i => (d, i)
 | none => (({ d with fs := d.fs ++ [⟨[], [], []⟩] } : Dk).change ⟨[], p, some d.fs.length⟩, d.fs.length)
def Dk.wasL (d : Dk) (p : Pth) : List UInt8 := match mget d.now p with
 | some i => (fget d.fs i).now
 | none => []
def Dk.putF (d : Dk) (i : Nat) (x : Fdt) : Dk := { d with fs := d.fs.set i x }
def Dk.write (d : Dk) (p : Pth) (w : Wr) : Dk :=
 let (d2, i) := d.make p
 d2.putF i ⟨w.on (fget d2.fs i).now w.d.length, (fget d2.fs i).stays, (fget d2.fs i).w ++ [w]⟩
def Dk.layE (d : Dk) (p : Pth) (w : Wr) : Nat :=
 if nameB p = false then 7
 else if d.most < (w.on (d.wasL p) w.d.length).length then 5
 else if d.cap + (d.wasL p).length < d.used + (w.on (d.wasL p) w.d.length).length then 12
 else 0
def Dk.lay (d : Dk) (p : Pth) (w : Wr) : Nat × Dk :=
 let (g, d1) := d.begin
 if g = false then (11, d1) else (d1.layE p w, if d1.layE p w = 0 then d1.write p w else d1)
def Dk.syncF (d : Dk) (i : Nat) : Dk := d.putF i ⟨(fget d.fs i).now, (fget d.fs i).now, []⟩
def Dk.sync (d : Dk) (p : Pth) : Nat × Dk :=
 let (g, d1) := d.begin
 if g = false then (11, d1) else (d1.look p, if d1.look p = 0 then d1.syncF ((mget d1.now p).getD 0) else d1)
def Dk.renE (d : Dk) (a b : Pth) : Nat :=
 if nameB a = false ∨ nameB b = false then 7 else if dirP a ≠ dirP b then 13 else d.look a
def Dk.rename (d : Dk) (a b : Pth) : Nat × Dk :=
 let (g, d1) := d.begin
 if g = false then (11, d1) else (d1.renE a b, if d1.renE a b = 0 ∧ a ≠ b then d1.change ⟨a, b, some ((mget d1.now a).getD 0)⟩ else d1)
def merge (now stays : Nms) (n : Pth) : Nms := (now.filter (fun x => dirP x.1 = n)).foldl (fun l x => nput l x.1 x.2) (stays.filter (fun x => !decide (dirP x.1 = n)))
def Dk.stayD (d : Dk) (n : Pth) : Dk := { d with stays := merge d.now d.stays n, log := d.log.filter (fun c => !decide (c.dir = n)) }
def dirE (n : Pth) : Nat := if n ≠ [] ∧ nameB n = false then 7 else 0
def Dk.syncDir (d : Dk) (n : Pth) : Nat × Dk :=
 let (g, d1) := d.begin
 if g = false then (11, d1) else (dirE n, if dirE n = 0 then d1.stayD n else d1)
def Dk.readE (d : Dk) (p : Pth) : Nat := if d.dead = true then 11 else d.look p
def Dk.readL (d : Dk) (p : Pth) : List UInt8 := if d.readE p = 0 then d.wasL p else []
def pickN (picks : List Int) (at_ of : Nat) : Nat := if at_ < picks.length then (picks.getD at_ 0 % (of : Int)).toNat else 0
def crashD (picks : List Int) (d : Dk) (s : Nms × Nat) (n : Pth) : Nms × Nat :=
 if d.chgs n = [] then s else (apl ((d.chgs n).take (pickN picks s.2 ((d.chgs n).length + 1))) s.1, s.2 + 1)
def crashF (picks : List Int) (s : List Fdt × Nat) (x : Pth × Nat) : List Fdt × Nat :=
 let f := fget s.1 x.2
 if f.w = [] then s
 else
  let b := wayW f.w f.stays (pickN picks s.2 (waysF f.w))
  (s.1.set x.2 ⟨b, b, []⟩, s.2 + 1)
def insP : List Pth → Pth → List Pth
 | [], p => [p]
 | x :: l, p => if blt x p then x :: insP l p else if x = p then x :: l else p :: x :: l
def Dk.dirty (d : Dk) : List Pth := (d.log.map Chg.dir).foldl insP []
def Dk.crashN (d : Dk) (picks : List Int) : Nms × Nat := d.dirty.foldl (crashD picks d) (d.stays, 0)
def Dk.crashA (d : Dk) (picks : List Int) : List Fdt × Nat := (d.crashN picks).1.foldl (crashF picks) (d.fs, (d.crashN picks).2)
def Dk.crash (d : Dk) (picks : List Int) : Dk :=
 { d with fs := (d.crashA picks).1, now := (d.crashN picks).1, stays := (d.crashN picks).1, log := [], left := 0, dead := false }
theorem mget_fold (l : Nms) : ∀ (m : Nms) (q : Pth), Asc l → mget (l.foldl (fun l x => nput l x.1 x.2) m) q = match mget l q with | some i => some i | none => mget m q := by
 induction l with
 | nil => intro m q _; rfl
 | cons x l ih =>
   intro m q h
   unfold Asc at h
   rw [List.pairwise_cons] at h
   rw [List.foldl_cons, ih _ _ h.2, mget_nput]
   simp only [mget]
   by_cases hq : q = x.1
   · have : mget l q = none := Option.not_isSome_iff_eq_none.1 (fun c => by
      rw [isSome_iff_key] at c
      obtain ⟨z, hz, e⟩ := List.mem_map.1 c
      exact blt_ne (h.1 z hz) (by rw [e, hq]))
     rw [if_pos hq, if_pos hq, this]
   · rw [if_neg hq, if_neg hq]
theorem mget_merge {now stays : Nms} (h : Asc now) (n q : Pth) : mget (merge now stays n) q = if dirP q = n then mget now q else mget stays q := by
 unfold merge
 rw [mget_fold _ _ _ (h.filter _), mget_filter (f := fun p => decide (dirP p = n)), mget_filter (f := fun p => !decide (dirP p = n))]
 by_cases hq : dirP q = n
 · simp only [hq, decide_true, if_true, Bool.not_true, Bool.false_eq_true, if_false]
   cases mget now q <;> rfl
 · simp [hq]
theorem asc_fold (l : Nms) : ∀ m : Nms, Asc m → Asc (l.foldl (fun l x => nput l x.1 x.2) m) := by
 induction l with
 | nil => intro m h; exact h
 | cons x l ih => intro m h; exact ih _ (asc_nput h _ _)
theorem asc_merge {now stays : Nms} (h : Asc stays) (n : Pth) : Asc (merge now stays n) := asc_fold _ _ (h.filter _)
end Go.Proofs.YtfjmpninmdjcaaaGreatDoor.E

namespace Go.Proofs.YtfjmpninmdjcaaaGreatDoor.LinM
open E
section
variable {α : Type} [DecidableEq α]
def lcs : List α → List α → Nat
 | [], _ => 0
 | _ :: _, [] => 0
 | x :: xs, y :: ys => if x = y then lcs xs ys + 1 else max (lcs xs (y :: ys)) (lcs (x :: xs) ys)
termination_by a b => a.length + b.length
def W : List α → List α → List Int
 | [], [] => []
 | [], _ :: ys => 2 :: W [] ys
 | _ :: xs, [] => 1 :: W xs []
 | x :: xs, y :: ys => if x = y then 0 :: W xs ys else if lcs xs (y :: ys) = lcs (x :: xs) (y :: ys) then 1 :: W xs (y :: ys) else 2 :: W (x :: xs) ys
termination_by a b => a.length + b.length
end
theorem mget_snoc {κ β : Type} [DecidableEq κ] {k s : κ} {b : β} : ∀ {m : List (κ × β)}, mget (m ++ [(s, b)]) k = (mget m k).or (if k = s then some b else none)
 | [] => by by_cases h : k = s <;> simp [mget, h]
 | (a, c) :: m => by
   simp only [List.cons_append, mget]
   split
   · rfl
   · exact mget_snoc
end Go.Proofs.YtfjmpninmdjcaaaGreatDoor.LinM

namespace Go.Proofs.YtfjmpninmdjcaaaGreatDoor.RefP
open E Go.RowKit NamA NamB NamC NamD RefA RefB
set_option maxRecDepth 20000
section
variable {β : Type}
def GAsc (l : List (Pth × β)) : Prop := l.Pairwise (fun x y => blt x.1 y.1)
theorem GAsc.rise {l : List (Pth × β)} (h : GAsc l) : Rise (l.map (·.1)) := by unfold Rise; rw [List.pairwise_map]; exact h
theorem GAsc.nodup {l : List (Pth × β)} (h : GAsc l) : (l.map (·.1)).Nodup := rise_nodup h.rise
theorem GAsc.nil : GAsc ([] : List (Pth × β)) := List.Pairwise.nil
theorem GAsc.tail {x : Pth × β} {l : List (Pth × β)} (h : GAsc (x :: l)) : GAsc l := (List.pairwise_cons.1 h).2
def gput : List (Pth × β) → Pth → β → List (Pth × β)
 | [], p, i => [(p, i)]
 | x :: l, p, i => if x.1 = p then (p, i) :: l else if blt p x.1 then (p, i) :: x :: l else x :: gput l p i
theorem mget_gput (l : List (Pth × β)) (p : Pth) (i : β) (q : Pth) (h : GAsc l) : mget (gput l p i) q = if q = p then some i else mget l q := by
 induction l with
 | nil => simp [gput, mget]
 | cons x l ih =>
   unfold gput
   split
   · rename_i h2
     simp only [mget]
     by_cases hq : q = p
     · simp [hq]
     · rw [if_neg hq, if_neg hq, if_neg (fun e => hq (e.trans h2))]
   · split
     · simp only [mget]
     · simp only [mget, ih h.tail]
       by_cases hq : q = x.1
       · rw [if_pos hq, if_pos hq, if_neg (fun e => by rename_i h1 _; exact h1 (by rw [← hq, e]))]
       · rw [if_neg hq, if_neg hq]
theorem mem_gput {l : List (Pth × β)} {p : Pth} {i : β} {x : Pth × β} (h : x ∈ gput l p i) : x = (p, i) ∨ x ∈ l := by
 induction l with
 | nil => simp [gput] at h; exact .inl h
 | cons y l ih =>
   unfold gput at h
   split at h
   · rcases List.mem_cons.1 h with e | h
     · exact .inl e
     · exact .inr (List.mem_cons_of_mem _ h)
   · split at h
     · rcases List.mem_cons.1 h with e | h
       · exact .inl e
       · exact .inr h
     · rcases List.mem_cons.1 h with e | h
       · exact .inr (by rw [e]; exact List.mem_cons_self)
       · rcases ih h with e | h
         · exact .inl e
         · exact .inr (List.mem_cons_of_mem _ h)
theorem gasc_gput {l : List (Pth × β)} (h : GAsc l) (p : Pth) (i : β) : GAsc (gput l p i) := by
 induction l with
 | nil => exact List.pairwise_singleton _ _
 | cons x l ih =>
   have hc := List.pairwise_cons.1 h
   unfold gput
   split
   · rename_i h2
     exact List.pairwise_cons.2 ⟨fun y hy => by rw [← h2]; exact hc.1 y hy, hc.2⟩
   · split
     · rename_i h1 h2
       refine List.pairwise_cons.2 ⟨fun y hy => ?_, h⟩
       rcases List.mem_cons.1 hy with e | hy
       · rw [e]; exact h2
       · exact blt_trans h2 (hc.1 y hy)
     · rename_i h1 h2
       refine List.pairwise_cons.2 ⟨fun y hy => ?_, ih hc.2⟩
       rcases mem_gput hy with e | hy
       · rw [e]
         refine Classical.byContradiction (fun h3 => h1 ?_)
         exact blt_total h3 h2
       · exact hc.1 y hy
theorem gasc_del {l : List (Pth × β)} (h : GAsc l) (p : Pth) : GAsc (mdel l p) := List.Pairwise.filter _ h
theorem mem_del {l : List (Pth × β)} {p : Pth} {x : Pth × β} (h : x ∈ mdel l p) : x ∈ l ∧ x.1 ≠ p := by
 have := List.mem_filter.1 h; exact ⟨this.1, by simpa using this.2⟩
theorem pw_ext {α : Type} {R : α → α → Prop} (ir : ∀ x, ¬ R x x) (sy : ∀ x y, R x y → ¬ R y x) : ∀ {a b : List α}, a.Pairwise R → b.Pairwise R → (∀ x, x ∈ a ↔ x ∈ b) → a = b
 | [], [], _, _, _ => rfl
 | [], y :: b, _, _, h => by have := (h y).2 List.mem_cons_self; cases this
 | x :: a, [], _, _, h => by have := (h x).1 List.mem_cons_self; cases this
 | x :: a, y :: b, ha, hb, h => by
   rw [List.pairwise_cons] at ha hb
   have e : x = y := by
    rcases List.mem_cons.1 ((h x).1 List.mem_cons_self) with e | h1
    · exact e
    · rcases List.mem_cons.1 ((h y).2 List.mem_cons_self) with e | h2
      · exact e.symm
      · exact absurd (ha.1 _ h2) (sy _ _ (hb.1 _ h1))
   subst e
   congr 1
   refine pw_ext ir sy ha.2 hb.2 (fun z => ⟨fun hz => ?_, fun hz => ?_⟩)
   · rcases List.mem_cons.1 ((h z).1 (List.mem_cons_of_mem _ hz)) with e | h1
     · subst e; exact absurd (ha.1 _ hz) (ir _)
     · exact h1
   · rcases List.mem_cons.1 ((h z).2 (List.mem_cons_of_mem _ hz)) with e | h1
     · subst e; exact absurd (hb.1 _ hz) (ir _)
     · exact h1
theorem gasc_ext {a b : List (Pth × β)} (ha : GAsc a) (hb : GAsc b) (h : ∀ q, mget a q = mget b q) : a = b :=
 pw_ext (R := fun x y : Pth × β => blt x.1 y.1) (fun x => blt_irr _) (fun x y => blt_asym) ha hb (fun x => by
  have h1 := h x.1
  constructor
  · intro hx
    have h2 := mget_of_mem ha.nodup (show (x.1, x.2) ∈ a from hx)
    rw [h1] at h2; exact E.mget_mem h2
  · intro hx
    have h2 := mget_of_mem hb.nodup (show (x.1, x.2) ∈ b from hx)
    rw [← h1] at h2; exact E.mget_mem h2)
theorem nodup_le2 {α : Type} [DecidableEq α] : ∀ {a b : List α}, a.Nodup → (∀ k ∈ a, k ∈ b) → a.length ≤ b.length
 | [], b, _, _ => Nat.zero_le _
 | x :: a, b, hn, hs => by
   rw [List.nodup_cons] at hn
   have h := nodup_le2 (b := b.erase x) hn.2 (fun k hk => (List.mem_erase_of_ne (fun e => hn.1 (by rw [← e]; exact hk))).2 (hs k (List.mem_cons_of_mem _ hk)))
   have hx := hs x List.mem_cons_self
   rw [List.length_erase_of_mem hx] at h
   have := List.length_pos_of_mem hx
   simp only [List.length_cons]; omega
theorem mget_len {a b : List (Pth × β)} (ha : (a.map (·.1)).Nodup) (hb : (b.map (·.1)).Nodup) (h : ∀ q, mget a q = mget b q) : a.length = b.length := by
 have h1 := nodup_le2 ha (fun k hk => by rw [← isSome_iff_key, ← h, isSome_iff_key]; exact hk)
 have h2 := nodup_le2 hb (fun k hk => by rw [← isSome_iff_key, h, isSome_iff_key]; exact hk)
 rw [List.length_map, List.length_map] at h1 h2
 omega
theorem gput_len (l : List (Pth × β)) (p : Pth) (i : β) : (gput l p i).length ≤ l.length + 1 := by
 induction l with
 | nil => simp [gput]
 | cons x l ih => unfold gput; split <;> (try split) <;> simp <;> omega
theorem gput_hit {l : List (Pth × β)} {p : Pth} {i : β} {k : Nat} (hk : k < l.length) (h1 : ∀ j (h : j < l.length), j < k → blt l[j].1 p) (h2 : l[k].1 = p) : gput l p i = l.set k (p, i) := by
 induction l generalizing k with
 | nil => simp at hk
 | cons x l ih =>
   cases k with
   | zero => simp only [List.getElem_cons_zero] at h2; rw [gput, if_pos h2]; rfl
   | succ k =>
     have h0 := h1 0 (by simp) (by omega)
     simp only [List.getElem_cons_zero] at h0
     rw [gput, if_neg (blt_ne h0), if_neg (blt_asym h0), List.set_cons_succ]
     congr 1
     exact ih (by simpa using hk) (fun j h hj => by have := h1 (j + 1) (by simp; omega) (by omega); simpa using this) (by simpa using h2)
theorem gput_miss {l : List (Pth × β)} {p : Pth} {i : β} {k : Nat} (hk : k ≤ l.length) (h1 : ∀ j (h : j < l.length), j < k → blt l[j].1 p) (h2 : ∀ h : k < l.length, blt p l[k].1) : gput l p i = l.take k ++ (p, i) :: l.drop k := by
 induction l generalizing k with
 | nil => simp [gput]
 | cons x l ih =>
   cases k with
   | zero =>
     have h0 := h2 (by simp)
     simp only [List.getElem_cons_zero] at h0
     rw [gput, if_neg (fun e => blt_ne h0 e.symm), if_pos h0]; rfl
   | succ k =>
     have h0 := h1 0 (by simp) (by omega)
     simp only [List.getElem_cons_zero] at h0
     rw [gput, if_neg (blt_ne h0), if_neg (blt_asym h0), List.take_succ_cons, List.drop_succ_cons, List.cons_append]
     congr 1
     exact ih (by simpa using hk) (fun j h hj => by have := h1 (j + 1) (by simp; omega) (by omega); simpa using this) (fun h => by have := h2 (by simp; omega); simpa using this)
end
def _root_.Go.Proofs.YtfjmpninmdjcaaaGreatDoor.RefA.TSq.p (x : TSq) : TSq := { x with tv := n0 }
abbrev RL := List (Pth × Ide)
abbrev GL := List (Pth × List TLn)
abbrev ML := List (Pth × List UInt8)
structure MSt where
 hd : List UInt8
 rf : RL
 lg : GL
 q : TSq
 me : ML
def rlM (l : List TRf) : RL := l.map (fun x => (x.n, x.i))
def llM (l : List TLg) : GL := l.map (fun x => (x.n, x.l))
def elM (l : List TMm) : ML := l.map (fun x => (x.k.1, x.d))
def _root_.Go.Proofs.YtfjmpninmdjcaaaGreatDoor.RefA.TSt.m (s : TSt) : MSt := ⟨s.hd, rlM s.rl, llM s.ll, s.q.p, elM s.el⟩
def mvR (l : RL) (m : TMv) : RL := if m.w = Zid then mdel l m.n else gput l m.n m.w
def lastN (l : List TLn) : List TLn := l.drop (l.length - 100)
def mvG (l : GL) (m : TMv) : GL := if m.w = Zid then mdel l m.n else gput l m.n (lastN ((mget l m.n).getD [] ++ [⟨m.o, m.w, m.y⟩]))
def adM (l : ML) (el : List TMm) : ML := el.foldl (fun l x => gput l x.k.1 x.d) l
def MSt.ap (s : MSt) (t : TTx) : MSt := ⟨if t.hh = true then t.hd else s.hd, t.ml.foldl mvR s.rf, t.ml.foldl mvG s.lg, if t.hs = true then (if t.q.k = 0 then zSq else t.q.p) else s.q, adM s.me t.el⟩
def zM : MSt := ⟨[], [], [], zSq, []⟩
def atM (l : RL) (n : Pth) : Ide := (mget l n).getD Zid
def mvE (l : RL) (pre : List TMv) (m : TMv) : Int := if chk m.n ≠ 0 then 7 else if m.n ∈ pre.map (·.n) then 18 else if atM l m.n ≠ m.o then 21 else if m.w = m.o then 26 else 0
def mvsE (l : RL) : List TMv → List TMv → Int
 | _, [] => 0
 | pre, m :: r => if mvE l pre m ≠ 0 then mvE l pre m else mvsE l (pre ++ [m]) r
def fitB (u : RL) (m : TMv) : Bool := decide (m.o = Zid ∧ m.w ≠ Zid) && (u.map (·.1)).any (fun x => decide (x ≠ m.n) && adj m.n x)
def fitE (u : RL) (l : List TMv) : Int := if l.any (fitB u) = true then 13 else 0
def movesE (l : RL) (ml : List TMv) : Int := if mvsE l [] ml ≠ 0 then mvsE l [] ml else if 200 < (ml.foldl mvR l).length then 4 else fitE (ml.foldl mvR l) ml
def memsE (l : ML) (el : List TMm) : Int := if memAll el ≠ 0 then memAll el else if 500 < (adM l el).length then 4 else 0
def headE2 (t : TTx) : Int := if t.hh = true ∧ t.hd ≠ [] then chk t.hd else 0
def sqE2 (t : TTx) : Int := if t.hs = true ∧ t.q.k ≠ 0 then seqE t.q else 0
def noneE (t : TTx) : Int := if t.hh = false ∧ t.hs = false ∧ t.ml = [] ∧ t.el = [] then 1 else 0
def chkE (s : MSt) (t : TTx) : Int := if noneE t ≠ 0 then noneE t else if headE2 t ≠ 0 then headE2 t else if movesE s.rf t.ml ≠ 0 then movesE s.rf t.ml else if sqE2 t ≠ 0 then sqE2 t else memsE s.me t.el
structure MSt.Ok (s : MSt) : Prop where
 ra : GAsc s.rf
 nz : ∀ x ∈ s.rf, x.2 ≠ Zid
 lk : s.lg.map (·.1) = s.rf.map (·.1)
 ma : GAsc s.me
 rn : s.rf.length ≤ 200
 mn : s.me.length ≤ 500
 rl : ∀ x ∈ s.rf, x.1.length ≤ 60
 ll : ∀ x ∈ s.lg, x.2.length ≤ 100
 md : ∀ x ∈ s.me, x.2.length ≤ 65536
 tn : s.q.td.length ≤ 100
theorem zM_ok : zM.Ok := ⟨GAsc.nil, (fun x h => by cases h), rfl, GAsc.nil, by simp [zM], by simp [zM], (fun x h => by cases h), (fun x h => by cases h), (fun x h => by cases h), by simp [zM, zSq]⟩
theorem MSt.Ok.ga {s : MSt} (h : s.Ok) : GAsc s.lg := by
 have h1 := h.ra.rise
 rw [← h.lk] at h1
 unfold Rise at h1
 rw [List.pairwise_map] at h1; exact h1
theorem mget_mvR {l : RL} (h : GAsc l) (m : TMv) (q : Pth) : mget (mvR l m) q = if q = m.n then (if m.w = Zid then none else some m.w) else mget l q := by
 unfold mvR
 split
 · rw [mget_del]
 · rw [mget_gput _ _ _ _ h]
theorem gasc_mvR {l : RL} (h : GAsc l) (m : TMv) : GAsc (mvR l m) := by
 unfold mvR
 split
 · exact gasc_del h _
 · exact gasc_gput h _ _
theorem gasc_mvG {l : GL} (h : GAsc l) (m : TMv) : GAsc (mvG l m) := by
 unfold mvG
 split
 · exact gasc_del h _
 · exact gasc_gput h _ _
theorem gasc_mvRs : ∀ {ml : List TMv} {l : RL}, GAsc l → GAsc (ml.foldl mvR l)
 | [], _, h => h
 | m :: ml, l, h => gasc_mvRs (ml := ml) (gasc_mvR h m)
theorem gasc_mvGs : ∀ {ml : List TMv} {l : GL}, GAsc l → GAsc (ml.foldl mvG l)
 | [], _, h => h
 | m :: ml, l, h => gasc_mvGs (ml := ml) (gasc_mvG h m)
theorem gasc_adM : ∀ {el : List TMm} {l : ML}, GAsc l → GAsc (adM l el)
 | [], _, h => h
 | m :: el, l, h => gasc_adM (el := el) (gasc_gput h _ _)
theorem keys_put {β γ : Type} : ∀ {l : List (Pth × β)} {k : List (Pth × γ)} (p : Pth) (b : β) (c : γ), l.map (·.1) = k.map (·.1) → (gput l p b).map (·.1) = (gput k p c).map (·.1)
 | [], [], p, b, c, _ => rfl
 | x :: l, [], p, b, c, h => by simp at h
 | [], y :: k, p, b, c, h => by simp at h
 | x :: l, y :: k, p, b, c, h => by
   simp only [List.map_cons, List.cons.injEq] at h
   have ih := keys_put p b c h.2
   unfold gput
   rw [h.1]
   split
   · simp [h.2]
   · split
     · simp [h.1, h.2]
     · simp [h.1, ih]
theorem keys_del {β γ : Type} : ∀ {l : List (Pth × β)} {k : List (Pth × γ)} (p : Pth), l.map (·.1) = k.map (·.1) → (mdel l p).map (·.1) = (mdel k p).map (·.1)
 | [], [], p, _ => rfl
 | x :: l, [], p, h => by simp at h
 | [], y :: k, p, h => by simp at h
 | x :: l, y :: k, p, h => by
   simp only [List.map_cons, List.cons.injEq] at h
   have ih := keys_del p h.2
   unfold mdel at ih ⊢
   by_cases h1 : y.1 = p
   · rw [List.filter_cons_of_neg (by simp [h.1, h1]), List.filter_cons_of_neg (by simp [h1]), ih]
   · rw [List.filter_cons_of_pos (by simp [h.1, h1]), List.filter_cons_of_pos (by simp [h1]), List.map_cons, List.map_cons, h.1, ih]
theorem keys_mv : ∀ {ml : List TMv} {l : GL} {k : RL}, l.map (·.1) = k.map (·.1) → (ml.foldl mvG l).map (·.1) = (ml.foldl mvR k).map (·.1)
 | [], _, _, h => h
 | m :: ml, l, k, h => by
   refine keys_mv (ml := ml) (l := mvG l m) (k := mvR k m) ?_
   unfold mvG mvR
   split
   · exact keys_del _ h
   · exact keys_put _ _ _ h
theorem mvR_mem {l : RL} {m : TMv} {x : Pth × Ide} (h : x ∈ mvR l m) : x ∈ l ∨ (x = (m.n, m.w) ∧ m.w ≠ Zid) := by
 unfold mvR at h
 split at h
 · exact .inl (mem_del h).1
 · rename_i h1
   rcases mem_gput h with e | h
   · exact .inr ⟨e, h1⟩
   · exact .inl h
theorem mvRs_mem : ∀ {ml : List TMv} {l : RL} {x : Pth × Ide}, x ∈ ml.foldl mvR l → x ∈ l ∨ ∃ m ∈ ml, x = (m.n, m.w) ∧ m.w ≠ Zid
 | [], _, _, h => .inl h
 | m :: ml, l, x, h => by
   rcases mvRs_mem (ml := ml) (l := mvR l m) h with h | ⟨y, hy, h⟩
   · rcases mvR_mem h with h | h
     · exact .inl h
     · exact .inr ⟨m, List.mem_cons_self, h⟩
   · exact .inr ⟨y, List.mem_cons_of_mem _ hy, h⟩
theorem lastN_le (l : List TLn) : (lastN l).length ≤ 100 := by unfold lastN; rw [List.length_drop]; omega
theorem mvGs_ll : ∀ {ml : List TMv} {l : GL}, (∀ x ∈ l, x.2.length ≤ 100) → ∀ x ∈ ml.foldl mvG l, x.2.length ≤ 100
 | [], _, h => h
 | m :: ml, l, h => by
   refine mvGs_ll (ml := ml) (l := mvG l m) (fun x hx => ?_)
   unfold mvG at hx
   split at hx
   · exact h x (mem_del hx).1
   · rcases mem_gput hx with e | hx
     · rw [e]; exact lastN_le _
     · exact h x hx
theorem adM_mem : ∀ {el : List TMm} {l : ML} {x : Pth × List UInt8}, x ∈ adM l el → x ∈ l ∨ ∃ m ∈ el, x = (m.k.1, m.d)
 | [], _, _, h => .inl h
 | m :: el, l, x, h => by
   rcases adM_mem (el := el) (l := gput l m.k.1 m.d) h with h | ⟨y, hy, h⟩
   · rcases mem_gput h with h | h
     · exact .inr ⟨m, List.mem_cons_self, h⟩
     · exact .inl h
   · exact .inr ⟨y, List.mem_cons_of_mem _ hy, h⟩
theorem mvsE_names : ∀ {ml : List TMv} {l : RL} {pre : List TMv}, mvsE l pre ml = 0 → ∀ m ∈ ml, chk m.n = 0
 | [], _, _, _, m, h => by cases h
 | x :: ml, l, pre, h, m, hm => by
   rw [mvsE] at h
   by_cases h1 : mvE l pre x ≠ 0
   · rw [if_pos h1] at h; exact absurd h h1
   · rw [if_neg h1] at h
     rcases List.mem_cons.1 hm with rfl | hm
     · unfold mvE at h1
       refine Classical.byContradiction (fun h2 => h1 ?_)
       rw [if_pos h2]; decide
     · exact mvsE_names h m hm
theorem memAll_zero : ∀ {el : List TMm}, memAll el = 0 → ∀ y ∈ el, memE y = 0
 | [], _, y, h => by cases h
 | x :: el, h, y, hy => by
   rw [memAll] at h
   by_cases h1 : memE x ≠ 0
   · rw [if_pos h1] at h; exact absurd h h1
   · rw [if_neg h1] at h
     rcases List.mem_cons.1 hy with rfl | hy
     · simpa using h1
     · exact memAll_zero h y hy
theorem seqE_td {x : TSq} (h : seqE x = 0) : x.td.length ≤ 100 := by
 unfold seqE at h
 split at h
 · cases h
 split at h
 · rename_i h1 h2; cases h
 split at h
 · cases h
 split at h
 · cases h
 · omega
structure ChkD (s : MSt) (t : TTx) : Prop where
 no : noneE t = 0
 hd : headE2 t = 0
 mv : mvsE s.rf [] t.ml = 0
 rn : (t.ml.foldl mvR s.rf).length ≤ 200
 ft : fitE (t.ml.foldl mvR s.rf) t.ml = 0
 sq : sqE2 t = 0
 me : memAll t.el = 0
 mn : (adM s.me t.el).length ≤ 500
theorem chkE_zero {s : MSt} {t : TTx} (h : chkE s t = 0) : ChkD s t := by
 unfold chkE at h
 split at h
 · rename_i h1; exact absurd h h1
 rename_i h1
 split at h
 · rename_i h2; exact absurd h h2
 rename_i h2
 split at h
 · rename_i h3; exact absurd h h3
 rename_i h3
 split at h
 · rename_i h4; exact absurd h h4
 rename_i h4
 have h3' : movesE s.rf t.ml = 0 := by simpa using h3
 unfold movesE at h3'
 split at h3'
 · rename_i h5; exact absurd h3' h5
 rename_i h5
 split at h3'
 · cases h3'
 rename_i h6
 unfold memsE at h
 split at h
 · rename_i h7; exact absurd h h7
 rename_i h7
 split at h
 · cases h
 rename_i h8
 exact ⟨by simpa using h1, by simpa using h2, by simpa using h5, by omega, h3', by simpa using h4, by simpa using h7, by omega⟩
theorem MSt.Ok.ap {s : MSt} {t : TTx} (h : s.Ok) (hc : chkE s t = 0) : (s.ap t).Ok := by
 have c := chkE_zero hc
 refine ⟨gasc_mvRs h.ra, fun x hx => ?_, keys_mv h.lk, gasc_adM h.ma, c.rn, c.mn, fun x hx => ?_, mvGs_ll h.ll, fun x hx => ?_, ?_⟩
 · rcases mvRs_mem hx with hx | ⟨m, _, e, h1⟩
   · exact h.nz x hx
   · rw [e]; exact h1
 · rcases mvRs_mem hx with hx | ⟨m, hm, e, h1⟩
   · exact h.rl x hx
   · rw [e]; exact ((chk_iff m.n).1 (mvsE_names c.mv m hm)).1
 · rcases adM_mem hx with hx | ⟨m, hm, e⟩
   · exact h.md x hx
   · rw [e]
     have h1 := memAll_zero c.me m hm
     unfold memE at h1
     split at h1
     · cases h1
     · split at h1
       · cases h1
       · show m.d.length ≤ 65536; omega
 · show (if t.hs = true then (if t.q.k = 0 then zSq else t.q.p) else s.q).td.length ≤ 100
   by_cases h1 : t.hs = true
   · rw [if_pos h1]
     by_cases h2 : t.q.k = 0
     · rw [if_pos h2]; simp [zSq]
     · rw [if_neg h2]
       have h3 := c.sq
       unfold sqE2 at h3
       rw [if_pos ⟨h1, h2⟩] at h3
       exact seqE_td h3
   · rw [if_neg h1]; exact h.tn
theorem mget_movL (m : List (Pth × Ide)) (x : TMv) (q : Pth) : mget (movL m x) q = if q = x.n then (if x.w = Zid then none else some x.w) else mget m q := by
 unfold movL
 split
 · rw [mget_del]
 · rw [mget_put]
theorem mget_tab : ∀ (l : List TRf), ((rlM l).map (·.1)).Nodup → ∀ q, mget (tabL l) q = mget (rlM l) q := by
 have key : ∀ (k : List TRf), ((rlM k.reverse).map (·.1)).Nodup → ∀ q, mget (tabL k.reverse) q = mget (rlM k.reverse) q := by
  intro k
  induction k with
  | nil => intro _ q; rfl
  | cons x k ih =>
    intro hn q
    rw [List.reverse_cons] at hn ⊢
    rw [tabL_snoc, mget_put]
    have e : rlM (k.reverse ++ [x]) = rlM k.reverse ++ [(x.n, x.i)] := by simp [rlM]
    rw [e] at hn ⊢
    rw [List.map_append, List.nodup_append] at hn
    rw [LinM.mget_snoc, ih hn.1]
    by_cases hq : q = x.n
    · subst hq
      have : mget (rlM k.reverse) x.n = none := by
       cases hg : mget (rlM k.reverse) x.n with
       | none => rfl
       | some z => exact absurd rfl (hn.2.2 x.n (isSome_iff_key.1 (by rw [hg]; rfl)) x.n (by simp))
      rw [this]; simp
    · simp [hq]
 intro l hn q
 have := key l.reverse (by rwa [List.reverse_reverse]) q
 rwa [List.reverse_reverse] at this
theorem foldl_take {α β : Type} {f : β → α → β} {l : List α} {b : β} {j : Nat} (h : j < l.length) : (l.take (j + 1)).foldl f b = f ((l.take j).foldl f b) l[j] := by
 rw [List.take_succ_eq_append_getElem h, List.foldl_append]; rfl
theorem adM_take {l : ML} {el : List TMm} {j : Nat} (h : j < el.length) : adM l (el.take (j + 1)) = gput (adM l (el.take j)) el[j].k.1 el[j].d := foldl_take h
theorem adM_lenle : ∀ (el : List TMm) (l : ML), (adM l el).length ≤ l.length + el.length
 | [], l => Nat.le_refl _
 | x :: el, l => by
   have h1 := adM_lenle el (gput l x.k.1 x.d)
   have h2 := gput_len l x.k.1 x.d
   show (adM (gput l x.k.1 x.d) el).length ≤ _
   simp only [List.length_cons]; omega
theorem adM_key : ∀ {el : List TMm} {l : ML}, GAsc l → ∀ (k : Pth), (k ∈ (adM l el).map (·.1) ↔ k ∈ l.map (·.1) ∨ ∃ x ∈ el, x.k.1 = k)
 | [], l, _, k => by simp [adM]
 | x :: el, l, h, k => by
   have ih := adM_key (el := el) (gasc_gput h x.k.1 x.d) k
   show k ∈ (adM (gput l x.k.1 x.d) el).map (·.1) ↔ _
   rw [ih, ← isSome_iff_key, ← isSome_iff_key, mget_gput _ _ _ _ h]
   by_cases hk : k = x.k.1
   · subst hk; simp
   · rw [if_neg hk]
     have hk' : ¬ x.k.1 = k := fun e => hk e.symm
     simp [hk']
theorem keyL_len {s el : List TMm} (hs : GAsc (elM s)) {m : List (Ide × Int)} (hn : (m.map (·.1)).Nodup) (hm : ∀ k, k ∈ m.map (·.1) ↔ (∃ x ∈ s, x.k = k) ∨ ∃ x ∈ el, x.k = k) : m.length = (adM (elM s) el).length := by
 have ha := (gasc_adM (el := el) hs).nodup
 have hn2 : ((m.map (·.1)).map (·.1)).Nodup := by
  rw [List.nodup_iff_pairwise_ne] at hn ⊢
  rw [List.pairwise_map]
  exact hn.imp (fun h e => h (Subtype.ext e))
 have e : ∀ k, k ∈ (m.map (·.1)).map (·.1) ↔ k ∈ (adM (elM s) el).map (·.1) := by
  intro k
  rw [adM_key hs]
  constructor
  · intro h
    obtain ⟨i, hi, rfl⟩ := List.mem_map.1 h
    rcases (hm i).1 hi with ⟨x, hx, e⟩ | ⟨x, hx, e⟩
    · exact .inl (List.mem_map.2 ⟨(x.k.1, x.d), List.mem_map.2 ⟨x, hx, rfl⟩, by rw [e]⟩)
    · exact .inr ⟨x, hx, by rw [e]⟩
  · rintro (h | ⟨x, hx, rfl⟩)
    · obtain ⟨y, hy, rfl⟩ := List.mem_map.1 h
      obtain ⟨x, hx, rfl⟩ := List.mem_map.1 hy
      exact List.mem_map.2 ⟨x.k, (hm _).2 (.inl ⟨x, hx, rfl⟩), rfl⟩
    · exact List.mem_map.2 ⟨x.k, (hm _).2 (.inr ⟨x, hx, rfl⟩), rfl⟩
 have h1 := nodup_le2 hn2 (fun k hk => (e k).1 hk)
 have h2 := nodup_le2 ha (fun k hk => (e k).2 hk)
 rw [List.length_map, List.length_map, List.length_map] at h1
 rw [List.length_map, List.length_map, List.length_map] at h2
 omega
theorem mvsE_at : ∀ {ml : List TMv} {l : RL} {pre : List TMv} {j : Nat} (hj : j < ml.length), (∀ i (h : i < j), mvE l (pre ++ ml.take i) (ml[i]'(by omega)) = 0) → mvE l (pre ++ ml.take j) ml[j] ≠ 0 → mvsE l pre ml = mvE l (pre ++ ml.take j) ml[j]
 | x :: ml, l, pre, 0, hj, _, h => by
   simp only [List.take_zero, List.append_nil, List.getElem_cons_zero] at h ⊢
   rw [mvsE, if_pos h]
 | x :: ml, l, pre, j + 1, hj, h, h2 => by
   have h0 := h 0 (by omega)
   simp only [List.take_zero, List.append_nil, List.getElem_cons_zero] at h0
   rw [mvsE, if_neg (by rw [h0]; decide)]
   have ih := mvsE_at (ml := ml) (l := l) (pre := pre ++ [x]) (j := j) (by simpa using hj) (fun i hi => by have := h (i + 1) (by omega); simpa using this) (by simpa using h2)
   simpa using ih
theorem mvsE_no : ∀ {ml : List TMv} {l : RL} {pre : List TMv}, (∀ i (h : i < ml.length), mvE l (pre ++ ml.take i) ml[i] = 0) → mvsE l pre ml = 0
 | [], _, _, _ => rfl
 | x :: ml, l, pre, h => by
   have h0 := h 0 (by simp)
   simp only [List.take_zero, List.append_nil, List.getElem_cons_zero] at h0
   rw [mvsE, if_neg (by rw [h0]; decide)]
   exact mvsE_no (fun i hi => by have := h (i + 1) (by simp; omega); simpa using this)
theorem mvE_first (l : RL) (pre : List TMv) (m : TMv) : firstL [chk m.n, mustL (!(pre.any (fun x => decide (x.n = m.n)))) 18, mustL (decide (atM l m.n = m.o)) 21, mustL (decide (¬ m.w = m.o)) 26] = mvE l pre m := by
 unfold mvE
 have e : (pre.any (fun x => decide (x.n = m.n))) = decide (m.n ∈ pre.map (·.n)) := by
  rw [Bool.eq_iff_iff]; simp
 rw [e]
 simp only [firstL, mustL, decide_eq_true_eq, Bool.not_eq_true', decide_eq_false_iff_not]
 rcases chk_or m.n with hc | hc <;> by_cases h2 : m.n ∈ pre.map (·.n) <;> by_cases h3 : atM l m.n = m.o <;> by_cases h4 : m.w = m.o <;> simp [hc, h2, h3, h4]
theorem fits_any {s : Pth} {l : List Pth} (hc : chk s = 0) (hn : s ∉ l) : fitsL s l = if l.any (adj s) = true then 13 else 0 := by
 have e : base s l = 0 := by unfold base; rw [if_neg (by rw [hc]; decide), if_neg hn]
 unfold fitsL
 rw [e, if_neg (by decide)]
end Go.Proofs.YtfjmpninmdjcaaaGreatDoor.RefP

namespace Go.Proofs.YtfjmpninmdjcaaaGreatDoor.Num
open E Go.RowKit
set_option maxRecDepth 20000
def numL : Nat → UInt64 → List UInt8
 | 0, _ => []
 | j + 1, x => UInt8.ofNat (shrw_u64 x (8 * j)).toNat :: numL j x
theorem numL_len : ∀ (n : Nat) (x : UInt64), (numL n x).length = n
 | 0, _ => rfl
 | n + 1, x => by rw [numL, List.length_cons, numL_len]
end Go.Proofs.YtfjmpninmdjcaaaGreatDoor.Num

namespace Go.Proofs.YtfjmpninmdjcaaaGreatDoor.RefQ
open E Go.RowKit NamA NamB NamC NamD RefA RefB RefP Num
set_option maxRecDepth 20000
set_option maxRecDepth 100000 in
theorem inf57 : Inf Tryz.prog 57 5 1 1 := ⟨Tryz.underlying57, _, _, rfl, rfl, rfl, rfl, rfl⟩
def txB (n : Nat) (s : List UInt8) : List UInt8 := numL n (UInt64.ofNat s.length) ++ s
def mvT (m : TMv) : List UInt8 := txB 1 m.n ++ (m.o.1 ++ (m.w.1 ++ txB 2 m.y))
def tdT (t : TTd) : List UInt8 := numL 1 (UInt64.ofNat t.d.toNat) ++ t.i.1
def sqT (q : TSq) : List UInt8 := numL 1 (UInt64.ofNat q.k.toNat) ++ (if q.k = 0 then [] else txB 1 q.br ++ (q.og.1 ++ (q.cu.1 ++ (numL 2 (UInt64.ofNat q.td.length) ++ (q.td.flatMap tdT ++ (numL 2 (UInt64.ofNat q.dn.toNat) ++ (numL 2 (UInt64.ofNat q.md.toNat) ++ numL 1 (if q.st = true then 1 else 0))))))))
def mmT (m : TMm) : List UInt8 := m.k.1 ++ txB 4 m.d
def flT (t : TTx) : UInt64 := (if t.hh = true then 1 else 0) ||| (if t.hs = true then 2 else 0)
def encT (t : TTx) : List UInt8 := numL 1 (flT t) ++ ((if t.hh = true then txB 1 t.hd else []) ++ (numL 2 (UInt64.ofNat t.ml.length) ++ (t.ml.flatMap mvT ++ ((if t.hs = true then sqT t.q else []) ++ (numL 2 (UInt64.ofNat t.el.length) ++ t.el.flatMap mmT)))))
theorem txB_len (n : Nat) (s : List UInt8) : (txB n s).length = n + s.length := by unfold txB; rw [List.length_append, numL_len]
theorem mvT_len (m : TMv) : (mvT m).length = 67 + m.n.length + m.y.length := by
 unfold mvT; simp only [List.length_append, txB_len, m.o.2, m.w.2]; omega
theorem tdT_len (t : TTd) : (tdT t).length = 33 := by unfold tdT; rw [List.length_append, numL_len, t.i.2]
theorem mmT_len (m : TMm) : (mmT m).length = 36 + m.d.length := by unfold mmT; rw [List.length_append, txB_len, m.k.2]; omega
theorem fm_snoc {α : Type} {f : α → List UInt8} {l : List α} {j : Nat} (h : j < l.length) : (l.take (j + 1)).flatMap f = (l.take j).flatMap f ++ f l[j] := by
 rw [List.take_succ_eq_append_getElem h, List.flatMap_append]; simp
theorem fm_le {α : Type} {f : α → List UInt8} {n : Nat} : ∀ {l : List α}, (∀ x ∈ l, (f x).length ≤ n) → (l.flatMap f).length ≤ n * l.length
 | [], _ => by simp
 | x :: l, h => by
   rw [List.flatMap_cons, List.length_append, List.length_cons, Nat.mul_succ]
   have h1 := h x List.mem_cons_self
   have h2 := fm_le (l := l) (fun y hy => h y (List.mem_cons_of_mem _ hy))
   omega
structure EncQ (x : TSq) : Prop where
 k : 0 ≤ x.k ∧ x.k ≤ 255
 br : x.br.length ≤ 255
 td : x.td.length ≤ 65535
 dn : 0 ≤ x.dn ∧ x.dn ≤ 65535
 md : 0 ≤ x.md ∧ x.md ≤ 65535
 dd : ∀ t ∈ x.td, 0 ≤ t.d ∧ t.d ≤ 255
structure EncX (t : TTx) : Prop where
 ml : t.ml.length ≤ 65535
 el : t.el.length ≤ 65535
 hd : t.hh = true → t.hd.length ≤ 255
 mn : ∀ m ∈ t.ml, m.n.length ≤ 255 ∧ m.y.length ≤ 65535
 md : ∀ m ∈ t.el, m.d.length ≤ 65536
 k0 : t.hs = true → 0 ≤ t.q.k ∧ t.q.k ≤ 255
 sq : t.hs = true → t.q.k ≠ 0 → EncQ t.q
theorem sqT_0 {q : TSq} (h : q.k = 0) : sqT q = numL 1 (UInt64.ofNat q.k.toNat) := by unfold sqT; rw [if_pos h, List.append_nil]
theorem sqT_1 {q : TSq} (h : q.k ≠ 0) : sqT q = numL 1 (UInt64.ofNat q.k.toNat) ++ (txB 1 q.br ++ (q.og.1 ++ (q.cu.1 ++ (numL 2 (UInt64.ofNat q.td.length) ++ (q.td.flatMap tdT ++ (numL 2 (UInt64.ofNat q.dn.toNat) ++ (numL 2 (UInt64.ofNat q.md.toNat) ++ numL 1 (if q.st = true then 1 else 0)))))))) := by unfold sqT; rw [if_neg h]
theorem sqT_len {q : TSq} (h : EncQ q) : (sqT q).length ≤ 3000000 := by
 have h1 := fm_le (f := tdT) (n := 33) (l := q.td) (fun x _ => by rw [tdT_len]; omega)
 have h2 := h.td; have h3 := h.br
 unfold sqT
 split <;> simp only [List.length_append, numL_len, txB_len, q.og.2, q.cu.2, List.length_nil] <;> omega
theorem longest1_ct  (w0 : World) (H0 : Heap)
 :
 Ct Tryz.prog w0 183 #[.int .i64 1] H0 (fun r H2 => r = .int .i64 255 ∧ Nw H0 H2) := by
 refine Ct.enter (args := [.int .i64 1]) Tryz.func183 rfl rfl rfl ?_
 intro Q0 hret
 have hm0 : Nw H0 H0 := Mo.refl _ _
 refine CW.s1 (fun hK1 => CW.region ?_)
 refine LR.a1 (LR.nil (hK1 _ _ ?_))
 refine CW.s1 (fun hK2 => CW.region ?_)
 refine LR.m1 ?_
 refine LR.v1 (Y.cast (v2 := .int .i64 8) (Y.muli rfl rfl rfl (by decide)) (rfl)) ?_
 refine LR.v1 (Y.cast (v2 := .int .i64 256) (Y.shln (8) rfl rfl rfl rfl (by decide) (by decide)) (rfl)) ?_
 refine LR.v1 (Y.subi rfl rfl rfl (by decide)) ?_
 refine LR.a1 (LR.nil (hK2 _ _ ?_))
 refine CW.ret (hret .ret (.inr rfl) _ _ _ (res1 rfl rfl) ?_)
 exact ⟨rfl, hm0⟩
theorem longest2_ct  (w0 : World) (H0 : Heap)
 :
 Ct Tryz.prog w0 183 #[.int .i64 2] H0 (fun r H2 => r = .int .i64 65535 ∧ Nw H0 H2) := by
 refine Ct.enter (args := [.int .i64 2]) Tryz.func183 rfl rfl rfl ?_
 intro Q0 hret
 have hm0 : Nw H0 H0 := Mo.refl _ _
 refine CW.s1 (fun hK1 => CW.region ?_)
 refine LR.a1 (LR.nil (hK1 _ _ ?_))
 refine CW.s1 (fun hK2 => CW.region ?_)
 refine LR.m1 ?_
 refine LR.v1 (Y.cast (v2 := .int .i64 16) (Y.muli rfl rfl rfl (by decide)) (rfl)) ?_
 refine LR.v1 (Y.cast (v2 := .int .i64 65536) (Y.shln (16) rfl rfl rfl rfl (by decide) (by decide)) (rfl)) ?_
 refine LR.v1 (Y.subi rfl rfl rfl (by decide)) ?_
 refine LR.a1 (LR.nil (hK2 _ _ ?_))
 refine CW.ret (hret .ret (.inr rfl) _ _ _ (res1 rfl rfl) ?_)
 exact ⟨rfl, hm0⟩
theorem longest4_ct  (w0 : World) (H0 : Heap)
 :
 Ct Tryz.prog w0 183 #[.int .i64 4] H0 (fun r H2 => r = .int .i64 4294967295 ∧ Nw H0 H2) := by
 refine Ct.enter (args := [.int .i64 4]) Tryz.func183 rfl rfl rfl ?_
 intro Q0 hret
 have hm0 : Nw H0 H0 := Mo.refl _ _
 refine CW.s1 (fun hK1 => CW.region ?_)
 refine LR.a1 (LR.nil (hK1 _ _ ?_))
 refine CW.s1 (fun hK2 => CW.region ?_)
 refine LR.m1 ?_
 refine LR.v1 (Y.cast (v2 := .int .i64 32) (Y.muli rfl rfl rfl (by decide)) (rfl)) ?_
 refine LR.v1 (Y.cast (v2 := .int .i64 4294967296) (Y.shln (32) rfl rfl rfl rfl (by decide) (by decide)) (rfl)) ?_
 refine LR.v1 (Y.subi rfl rfl rfl (by decide)) ?_
 refine LR.a1 (LR.nil (hK2 _ _ ?_))
 refine CW.ret (hret .ret (.inr rfl) _ _ _ (res1 rfl rfl) ?_)
 exact ⟨rfl, hm0⟩
theorem truth_ct (b : Bool) (n : UInt64) (w0 : World) (H0 : Heap)
 :
 Ct Tryz.prog w0 100 #[.bool b, .int .u64 n.toNat] H0 (fun r H2 => r = .int .u64 (if b = true then n else 0 : UInt64).toNat ∧ Nw H0 H2) := by
 refine Ct.enter (args := [.bool b, .int .u64 n.toNat]) Tryz.func100 rfl rfl rfl ?_
 intro Q0 hret
 have hm0 : Nw H0 H0 := Mo.refl _ _
 refine CW.s1 (fun hK1 => CW.region ?_)
 refine LR.a1 (LR.nil (hK1 _ _ ?_))
 refine CW.s2 (fun hK2 hE2 => CW.s1 (fun hK3 => CW.region ?_))
 refine LR.m1 (LR.nil (hK3 _ _ ?_))
 refine CW.cond rfl (fun c5 => ?_) (fun c5 => ?_)
 ·
  refine CW.s1 (fun hK4 => CW.region ?_)
  refine LR.m1 ?_
  refine LR.a1 (LR.nil (hK4 _ _ ?_))
  refine CW.ret (hE2 .ret nofun _ _ (hret .ret (.inr rfl) _ _ _ (res1 rfl rfl) ?_))
  exact ⟨by first | (rw [if_pos (by assumption)]) | (rw [if_neg (by simp_all)]; rfl), hm0⟩
 ·
  refine CW.skip (hK2 _ _ (CW.s1 (fun hK5 => CW.region ?_)))
  refine LR.a1 (LR.nil (hK5 _ _ ?_))
  refine CW.ret (hret .ret (.inr rfl) _ _ _ (res1 rfl rfl) ?_)
  exact ⟨by first | (rw [if_pos (by assumption)]) | (rw [if_neg (by simp_all)]; rfl), hm0⟩
theorem smust_ct (v : Value) (e : Int) (w0 : World) (H0 : Heap)
 :
 Ct Tryz.prog w0 93 #[v, .bool true, .int .i64 e] H0 (fun r H2 => r = .tuple #[] ∧ Nw H0 H2) := by
 refine Ct.enter (args := [v, .bool true, .int .i64 e]) Tryz.func93 rfl rfl rfl ?_
 intro Q0 hret
 have hm0 : Nw H0 H0 := Mo.refl _ _
 refine CW.s1 (fun hK1 => CW.region ?_)
 refine LR.m1 ?_
 refine LR.v1 (Y.not rfl rfl) (LR.nil (hK1 _ _ ?_))
 refine CW.cond_f rfl ?_
 refine CW.skip ?_
 refine hret .normal (.inl rfl) _ _ _ (res0 rfl) ?_
 exact ⟨rfl, hm0⟩
set_option maxHeartbeats 4000000 in
theorem wnum_ct (bw k : Nat) (s : SV) (xs : List UInt8) (n : Nat) (x : UInt64) (w0 : World) (H0 : Heap)
 (hwv : Var 223 H0 bw [s.v, .int .i64 0, .int .i64 0]) (ow : Ow k 5 H0 fB 1 s.v xs) (hd : Dj (bw + 1) k) (hn : n ≤ 8) (hx : xs.length ≤ 1099511627776) :
 Ct Tryz.prog w0 99 #[.pointer (some ⟨bw, 0, none⟩), .int .i64 n, .int .u64 x.toNat] H0 (fun r H2 => ∃ s2 : SV, ∃ k2 : Nat, r = .tuple #[] ∧ (Var 223 H2 bw [s2.v, .int .i64 0, .int .i64 0]) ∧ (Ow k2 5 H2 fB 1 s2.v (xs ++ numL n x)) ∧ (Nx k H0.size k2) ∧ (Dj (bw + 1) k2) ∧ Mo (Ms [(bw + 1), k]) H0 H2) := by
 refine Ct.enter (args := [.pointer (some ⟨bw, 0, none⟩), .int .i64 n, .int .u64 x.toNat]) Tryz.func99 rfl rfl rfl ?_
 intro Q0 hret
 have hm0 : Mo (Ms [(bw + 1), k]) H0 H0 := Mo.refl _ _
 have nx_hm0_hwv := Nx.refl (bw + 1) H0.size
 have hlt_hwv := hwv.lt
 have nx_hm0_ow := Nx.refl k H0.size
 have hle_ow := ow.le
 refine CW.s1 (fun hK1 => CW.region ?_)
 refine LR.m1 ?_
 refine LR.v1 (Y.cast (v2 := .int .i64 ((n : Int) - 1)) (Y.subi rfl rfl rfl (by omega)) (rfl)) ?_
 refine LR.a1 (LR.nil (hK1 _ _ ?_))
 refine CW.block (fun _ _ hX2 _ => ?_)
 refine CW.loop (fun (s_ : (Nat) × (SV) × (Nat) × (List UInt8)) => match s_ with | (j, s1, k1, ys) => [(0, .pointer (some ⟨bw, 0, none⟩)), (2, .int .u64 x.toNat), (6, .int .i64 ((j : Int) - 1))])
  (fun (s_ : (Nat) × (SV) × (Nat) × (List UInt8)) (H : Heap) => match s_ with | (j, s1, k1, ys) => (j ≤ n) ∧ (Var 223 H bw [s1.v, .int .i64 0, .int .i64 0]) ∧ (Ow k1 5 H fB 1 s1.v ys) ∧ (ys ++ numL j x = xs ++ numL n x) ∧ (Nx k H0.size k1) ∧ (Dj (bw + 1) k1) ∧ Mo (Ms [(bw + 1), k]) H0 H)
  (fun (s_ : (Nat) × (SV) × (Nat) × (List UInt8)) => match s_ with | (j, s1, k1, ys) => j) (n, s, k, xs) ⟨rfl, rfl, rfl, trivial⟩ ?_ ?_
 ·
  exact ⟨(by omega), hwv, ow, rfl, Nx.refl _ _, hd, Mo.refl _ _⟩
 rintro ⟨j, s1, k1, ys⟩ HL1 hI1 K3 hN3 hE3
 obtain ⟨hj, hwv, ow, hys, nxl_ow, dj_hwv_ow, hlm1⟩ := hI1
 have nx1 : Nx k H0.size k1 := Nx.tr (nx_hm0_ow) nxl_ow hm0.size
 replace hm0 := hm0.trL hlm1 (MIL.cons (MI.r nx_hm0_hwv) (MIL.o (MI.r nx_hm0_ow)))
 have hz1 := hlm1.size
 have hle_ow := ow.le
 have dj2 := dj_hwv_ow
 have nx_hlm1_hwv := Nx.refl (bw + 1) H0.size
 have nx3 := nxl_ow
 have hyl : ys.length + j = xs.length + n := by have := congrArg List.length hys; simpa [numL_len] using this
 refine CW.s2 (fun hK4 hE4 => CW.s1 (fun hK5 => CW.region ?_))
 refine LR.m1 ?_
 refine LR.v1 (Y.geq rfl rfl rfl) (LR.nil (hK5 _ _ ?_))
 refine CW.condp rfl (fun c10 => ?_) (fun c10 => ?_)
 ·
  obtain ⟨j, rfl⟩ : ∃ q, j = q + 1 := ⟨j - 1, by omega⟩
  refine CW.skip (hK4 _ _ (CW.s1 (fun hK6 => CW.block (fun _ hK7 _ _ => ?_))))
  refine CW.region_any (fun Hq => Mo (Ms [k1]) HL1 Hq) [13, 14, 15, 16] rfl ?_
  have hq3 : Mo (Ms [k1]) HL1 HL1 := Mo.refl _ _
  have nx4 := Nx.refl k1 HL1.size
  refine LH.m1 0 rfl hq3 ?_
  refine LH.m1 1 rfl hq3 ?_
  refine LH.t1 2 rfl (fun Hq hq => Y.nilCheck rfl rfl) hq3 ?_
  refine LH.t1 3 rfl (fun Hq hq => Y.fieldAddr (hwv.upL hq (DL.o dj2)).pt rfl u'223 rfl rfl s'213 (by decide) rfl) hq3 ?_
  refine LH.t1 4 rfl (fun Hq hq => Y.fieldAddr (hwv.upL hq (DL.o dj2)).pt rfl u'213 rfl rfl s'57 (by decide) rfl) hq3 ?_
  refine LH.t1 5 rfl (fun Hq hq => Y.load1 (hwv.upL hq (DL.o dj2)).pt rfl a'57 rfl) hq3 ?_
  refine LH.m1 6 rfl hq3 ?_
  refine LH.m1 7 rfl hq3 ?_
  refine LH.t1 8 rfl (fun Hq hq => Y.muli rfl rfl rfl (by omega)) hq3 ?_
  refine LH.t1 9 rfl (fun Hq hq => Y.shr_u64 (8 * j) rfl rfl rfl (by first | rfl | omega) (by omega)) hq3 ?_
  refine LH.t1 10 rfl (fun Hq hq => Y.conv_u8 rfl u'216 u'5 rfl) hq3 ?_
  refine LH.o1 11 ?_
  refine LO.z rfl (Z.litw _ ([UInt8.ofNat (shrw_u64 x (8 * j)).toNat]) rfl inf57 rfl rfl rfl (by decide) (by decide) fB_len fB_one (rfl)) (Wd.u rfl) rfl rfl (fun v24 H24 r24 => ?_)
  obtain ⟨nw24, hs24, ob24, hH24⟩ := r24
  have hzs24 : H24.size = HL1.size + 1 := by rw [hH24]; simp
  have nx9 : Nx 0 HL1.size (HL1.size + 1) := Nx.new hq3.size
  replace ow := ow.nw hs24
  replace hwv := hwv.nw hs24
  replace hlm1 := hlm1.trN hs24
  replace hq3 := hq3.trN hs24
  have hz2 := hs24.size
  refine ⟨.inr hq3, LH.narrow (SH2 := fun Hq => Mo (Ms [k1, (HL1.size + 1)]) H24 Hq) (fun Hq hq => hq3.trL hq (MIL.cons (MI.r nx4) (MIL.o (MI.q nx9)))) ?_⟩
  have hq3 : Mo (Ms [k1, (HL1.size + 1)]) H24 H24 := Mo.refl _ _
  have nx10 := Nx.refl k1 H24.size
  have nx11 := Nx.refl (HL1.size + 1) H24.size
  refine LH.o1 12 ?_
  refine LO.z rfl (Z.apnd ow nw24.rd rfl inf57 rfl rfl (by simp; omega) (by simp; omega)) (Wd.u rfl) rfl rfl (fun v25 H25 r25 => ?_)
  obtain ⟨k25, ow, hk25, hs25⟩ := r25
  replace hk25 : Nx k1 H24.size k25 := hk25
  replace hs25 := hs25.md
  have dj12 : Dj (bw + 1) k25 := Dj.app (dj2) hwv.lt hk25
  have nx15 : Nx k H0.size k25 := Nx.tr (nx3) hk25 hlm1.size
  have nx16 : Nx k1 H24.size k25 := Nx.tr (nx10) hk25 hq3.size
  replace hwv := hwv.upL hs25 (DL.o dj2)
  replace hlm1 := hlm1.trL hs25 (MIL.o (MI.r nx3))
  replace hq3 := hq3.trL hs25 (MIL.o (MI.r nx10))
  have hz3 := hs25.size
  have hle_ow := ow.le
  obtain ⟨s25, rfl⟩ : ∃ s : SV, v25 = s.v := ⟨toSV v25, ow.sv.symm⟩
  refine ⟨.inr hq3, LH.narrow (SH2 := fun Hq => Mo (Ms [k25, (HL1.size + 1)]) H25 Hq) (fun Hq hq => hq3.trL hq (MIL.cons (MI.r nx16) (MIL.o (MI.r nx11)))) ?_⟩
  refine LH.o1 13 ?_
  refine LO.v rfl (Y.nilCheck rfl rfl) (Wd.u rfl) rfl rfl (.inl rfl) ?_
  refine LH.o1 14 ?_
  refine LO.v rfl (Y.FA hwv.pt rfl u'223 rfl s'213) (Wd.u rfl) rfl rfl (.inl rfl) ?_
  refine LH.o1 15 ?_
  refine LO.v rfl (Y.FA hwv.pt rfl u'213 rfl s'57) (Wd.u rfl) rfl rfl (.inl rfl) ?_
  refine LH.o1 16 ?_
  refine LO.s rfl (S.var1 hwv 0 (_) rfl rfl rfl (rfl) s'57 (by simp) (rfl)) (Wd.u rfl) rfl (fun H3_16 r3_16 => ?_)
  obtain ⟨hwv, hs3_16⟩ := r3_16
  replace hs3_16 := hs3_16.md1
  replace ow := ow.upL hs3_16 (DL.o dj12.symm)
  replace hlm1 := hlm1.trL hs3_16 (MIL.o (MI.r nx_hlm1_hwv))
  have hz4 := hs3_16.size
  refine ⟨.inl rfl, ?_⟩
  refine LH.done (by kernel_rfl) ?_
  refine hK7 _ _ (hK6 _ _ (CW.region ?_))
  refine LR.m1 ?_
  refine LR.v1 (Y.subi rfl rfl rfl (by omega)) ?_
  refine LR.a1 (LR.nil ?_)
  refine QN.sub (hN3 (j, s25, k25, ys ++ [UInt8.ofNat (shrw_u64 x (8 * j)).toNat]) _ ?_ ?_) ⟨rfl, (iv (by omega)), (iv (by omega)), trivial⟩
  · exact ⟨(by omega), hwv, ow, by rw [← hys, List.append_assoc]; rfl, nx15, dj12, hlm1⟩
  · first | omega | (simp only; omega) | (simp; omega)
 ·
  obtain rfl : j = 0 := by omega
  rw [numL, List.append_nil] at hys
  subst hys
  refine CW.exit (hE4 (.exit 0) nofun _ _ (hE3 (.exit 0) nofun _ _ (hX2 _ _ ?_)))
  refine hret .normal (.inl rfl) _ _ _ (res0 rfl) ?_
  exact ⟨s1, k1, rfl, hwv, ow, nx1, dj2, hm0⟩
theorem wtext_ct (bw k : Nat) (s : SV) (xs : List UInt8) (n : Nat) (t : List UInt8) (w0 : World) (H0 : Heap)
 (hwv : Var 223 H0 bw [s.v, .int .i64 0, .int .i64 0]) (ow : Ow k 5 H0 fB 1 s.v xs) (hd : Dj (bw + 1) k) (hx : xs.length ≤ 549755813888) (hn : n ≤ 8) (ht : t.length ≤ 549755813888) :
 Ct Tryz.prog w0 101 #[.pointer (some ⟨bw, 0, none⟩), .int .i64 n, Str t] H0 (fun r H2 => ∃ s2 : SV, ∃ k2 : Nat, r = .tuple #[] ∧ (Var 223 H2 bw [s2.v, .int .i64 0, .int .i64 0]) ∧ (Ow k2 5 H2 fB 1 s2.v (xs ++ txB n t)) ∧ (Nx k H0.size k2) ∧ (Dj (bw + 1) k2) ∧ Mo (Ms [(bw + 1), k]) H0 H2) := by
 refine Ct.enter (args := [.pointer (some ⟨bw, 0, none⟩), .int .i64 n, Str t]) Tryz.func101 rfl rfl rfl ?_
 intro Q0 hret
 have hm0 : Mo (Ms [(bw + 1), k]) H0 H0 := Mo.refl _ _
 have nx_hm0_hwv := Nx.refl (bw + 1) H0.size
 have hlt_hwv := hwv.lt
 have nx_hm0_ow := Nx.refl k H0.size
 have hle_ow := ow.le
 refine CW.s1 (fun hK1 => CW.region ?_)
 refine LR.m1 ?_
 refine LR.m1 ?_
 refine LR.m1 ?_
 refine LR.v1 (Y.slen rfl u'9 rfl) ?_
 refine LR.v1 (Y.conv_u64 rfl u'3 u'216 rfl) ?_
 refine LR.call rfl c'99 rfl (Wd.u rfl) rfl rfl (wnum_ct _ _ _ _ n _ w0 _ hwv ow (hd) hn (by omega)) (fun v11 H11 r11 => ?_)
 obtain ⟨s11, k11, rfl, hwv, ow, hk11, hd11, hs11⟩ := r11
 have nx4 : Nx k H0.size k11 := Nx.tr (nx_hm0_ow) hk11 hm0.size
 replace hm0 := hm0.trL hs11 (MIL.cons (MI.r nx_hm0_hwv) (MIL.o (MI.r nx_hm0_ow)))
 have hz1 := hs11.size
 have hle_ow := ow.le
 refine LR.nil (hK1 _ _ (CW.region ?_))
 refine LR.m1 ?_
 refine LR.m1 ?_
 refine LR.v1 (Y.nilCheck rfl rfl) ?_
 refine LR.v1 (Y.FA hwv.pt rfl u'223 rfl s'213) ?_
 refine LR.v1 (Y.FA hwv.pt rfl u'213 rfl s'57) ?_
 refine LR.v1 (Y.load1 hwv.pt rfl a'57 rfl) ?_
 refine LR.m1 ?_
 refine LR.z1 (Z.apndStr ow rfl inf57 Tryz.underlying9 rfl rfl (by simp [numL_len]; omega)) fun v19 H19 r19 => ?_
 obtain ⟨k19, ow, hk19, hs19⟩ := r19
 replace hk19 : Nx k11 H11.size k19 := hk19
 replace hs19 := hs19.md
 have dj5 : Dj (bw + 1) k19 := Dj.app (hd11) hwv.lt hk19
 have nx6 : Nx k H0.size k19 := Nx.tr (nx4) hk19 hm0.size
 replace hwv := hwv.upL hs19 (DL.o hd11)
 replace hm0 := hm0.trL hs19 (MIL.o (MI.r nx4))
 obtain ⟨s19, rfl⟩ : ∃ s : SV, v19 = s.v := ⟨toSV v19, ow.sv.symm⟩
 refine LR.v1 (Y.nilCheck rfl rfl) ?_
 refine LR.v1 (Y.FA hwv.pt rfl u'223 rfl s'213) ?_
 refine LR.v1 (Y.FA hwv.pt rfl u'213 rfl s'57) ?_
 refine LR.s1 (S.var1 hwv 0 (_) rfl rfl rfl (rfl) s'57 (by simp) (rfl)) fun H1_11 r1_11 => ?_
 obtain ⟨hwv, hs1_11⟩ := r1_11
 replace hs1_11 := hs1_11.md1
 replace ow := ow.upL hs1_11 (DL.o dj5.symm)
 replace hm0 := hm0.trL hs1_11 (MIL.o (MI.r nx_hm0_hwv))
 refine LR.nil ?_
 refine hret .normal (.inl rfl) _ _ _ (res0 rfl) ?_
 exact ⟨s19, k19, rfl, hwv, by rw [txB, ← List.append_assoc]; exact ow, nx6, (dj5), hm0⟩
theorem wid_ct (bw k : Nat) (s : SV) (xs : List UInt8) (i : Ide) (w0 : World) (H0 : Heap)
 (hwv : Var 223 H0 bw [s.v, .int .i64 0, .int .i64 0]) (ow : Ow k 5 H0 fB 1 s.v xs) (hd : Dj (bw + 1) k) (hx : xs.length ≤ 549755813888) :
 Ct Tryz.prog w0 102 #[.pointer (some ⟨bw, 0, none⟩), vA i] H0 (fun r H2 => ∃ s2 : SV, ∃ k2 : Nat, r = .tuple #[] ∧ (Var 223 H2 bw [s2.v, .int .i64 0, .int .i64 0]) ∧ (Ow k2 5 H2 fB 1 s2.v (xs ++ i.1)) ∧ (Nx k H0.size k2) ∧ (Dj (bw + 1) k2) ∧ Mo (Ms [(bw + 1), k]) H0 H2) := by
 refine Ct.enter (args := [.pointer (some ⟨bw, 0, none⟩), vA i]) Tryz.func102 rfl rfl rfl ?_
 intro Q0 hret
 have hm0 : Mo (Ms [(bw + 1), k]) H0 H0 := Mo.refl _ _
 have nx_hm0_hwv := Nx.refl (bw + 1) H0.size
 have hlt_hwv := hwv.lt
 have nx_hm0_ow := Nx.refl k H0.size
 have hle_ow := ow.le
 have hi := i.2
 refine CW.s1 (fun hK1 => CW.region ?_)
 refine LR.z1 (Z.boxv rfl rfl) fun v3 H3 r3 => ?_
 obtain ⟨rfl, vi, hs3, ob3, hH3⟩ := r3
 have hzs3 : H3.size = H0.size + 1 := by rw [hH3]; simp
 replace hwv := hwv.nw hs3
 replace ow := ow.nw hs3
 replace hm0 := hm0.trN hs3
 have hz1 := hs3.size
 replace vi : Var 26 H3 H0.size (i.1.map (fun b => Value.int .u8 b.toNat)) := vi
 refine LR.nil (hK1 _ _ ?_)
 refine CW.region_any (fun Hq => Mo (Ms [k]) H3 Hq) [8, 9, 10, 11] rfl ?_
 have hq1 : Mo (Ms [k]) H3 H3 := Mo.refl _ _
 have nx4 := Nx.refl k H3.size
 refine LH.m1 0 rfl hq1 ?_
 refine LH.m1 1 rfl hq1 ?_
 refine LH.t1 2 rfl (fun Hq hq => Y.nilCheck rfl rfl) hq1 ?_
 refine LH.t1 3 rfl (fun Hq hq => Y.fieldAddr (hwv.upL hq (DL.o hd)).pt rfl u'223 rfl rfl s'213 (by decide) rfl) hq1 ?_
 refine LH.t1 4 rfl (fun Hq hq => Y.fieldAddr (hwv.upL hq (DL.o hd)).pt rfl u'213 rfl rfl s'57 (by decide) rfl) hq1 ?_
 refine LH.t1 5 rfl (fun Hq hq => Y.load1 (hwv.upL hq (DL.o hd)).pt rfl a'57 rfl) hq1 ?_
 refine LH.e (g := fun v => v) 6 (by kernel_rfl) rfl (by kernel_rfl) (by kernel_rfl) (by kernel_rfl) (Y.sliceArrE (F := fun c => c = H0.size) (f := fB) (xs := i.1) vi.pt rfl vi.lt (i.2) (fun i x h => ⟨by simp [h], rfl⟩) (0) (32) rfl (fun w => .inl (u'26 w)) s'5 rfl (.inl ⟨rfl, rfl⟩) (.inl ⟨rfl, rfl⟩) (by omega) (by omega) (by decide)) (Wd.u rfl) rfl rfl hq1 (fun v10 rd10 => ?_)
 rw [List.drop_zero, List.take_of_length_le (by omega)] at rd10
 refine LH.o1 7 ?_
 refine LO.z rfl (Z.apnd ow rd10 rfl inf57 rfl rfl (by omega) (by omega)) (Wd.u rfl) rfl rfl (fun v11 H11 r11 => ?_)
 obtain ⟨k11, ow, hk11, hs11⟩ := r11
 replace hk11 : Nx k H3.size k11 := hk11
 replace hs11 := hs11.md
 have dj5 : Dj (bw + 1) k11 := Dj.app (hd) hwv.lt hk11
 have nx7 : Nx k H0.size k11 := Nx.tr (nx_hm0_ow) hk11 hm0.size
 have nx8 : Nx k H3.size k11 := Nx.tr (nx4) hk11 hq1.size
 replace hwv := hwv.upL hs11 (DL.o hd)
 replace hm0 := hm0.trL hs11 (MIL.o (MI.r nx_hm0_ow))
 replace hq1 := hq1.trL hs11 (MIL.o (MI.r nx4))
 obtain ⟨s11, rfl⟩ : ∃ s : SV, v11 = s.v := ⟨toSV v11, ow.sv.symm⟩
 refine ⟨.inr hq1, LH.narrow (SH2 := fun Hq => Mo (Ms [k11]) H11 Hq) (fun Hq hq => hq1.trL hq (MIL.o (MI.r nx8))) ?_⟩
 refine LH.o1 8 ?_
 refine LO.v rfl (Y.nilCheck rfl rfl) (Wd.u rfl) rfl rfl (.inl rfl) ?_
 refine LH.o1 9 ?_
 refine LO.v rfl (Y.FA hwv.pt rfl u'223 rfl s'213) (Wd.u rfl) rfl rfl (.inl rfl) ?_
 refine LH.o1 10 ?_
 refine LO.v rfl (Y.FA hwv.pt rfl u'213 rfl s'57) (Wd.u rfl) rfl rfl (.inl rfl) ?_
 refine LH.o1 11 ?_
 refine LO.s rfl (S.var1 hwv 0 ([s11.v, .int .i64 0, .int .i64 0]) rfl rfl rfl (rfl) s'57 (by simp) (rfl)) (Wd.u rfl) rfl (fun H1_11 r1_11 => ?_)
 obtain ⟨hwv, hs1_11⟩ := r1_11
 replace hs1_11 := hs1_11.md1
 replace ow := ow.upL hs1_11 (DL.o dj5.symm)
 replace hm0 := hm0.trL hs1_11 (MIL.o (MI.r nx_hm0_hwv))
 refine ⟨.inl rfl, ?_⟩
 refine LH.done (by kernel_rfl) ?_
 refine hret .normal (.inl rfl) _ _ _ (res0 rfl) ?_
 exact ⟨s11, k11, rfl, hwv, ow, nx7, (dj5), hm0⟩
theorem wdone_ct (bw : Nat) (s : SV) (w0 : World) (H0 : Heap)
 (hwv : Var 223 H0 bw [s.v, .int .i64 0, .int .i64 0]) :
 Ct Tryz.prog w0 104 #[.pointer (some ⟨bw, 0, none⟩)] H0 (fun r H2 => r = .tuple #[s.v, .int .i64 0] ∧ Nw H0 H2) := by
 refine Ct.enter (args := [.pointer (some ⟨bw, 0, none⟩)]) Tryz.func104 rfl rfl rfl ?_
 intro Q0 hret
 have hm0 : Nw H0 H0 := Mo.refl _ _
 refine CW.s1 (fun hK1 => CW.region ?_)
 refine LR.a1 ?_
 refine LR.a1 (LR.nil (hK1 _ _ ?_))
 refine CW.s1 (fun hK2 => CW.s1 (fun hK3 => CW.region ?_))
 refine LR.m1 ?_
 refine LR.v1 (Y.nilCheck rfl rfl) ?_
 refine LR.v1 (Y.FA hwv.pt rfl u'223 rfl s'213) ?_
 refine LR.v1 (Y.FA hwv.pt rfl u'213 rfl s'35) ?_
 refine LR.v1 (Y.load1 (hwv.pt.drop 2) rfl a'35 rfl) ?_
 refine LR.v1 (Y.neq rfl rfl rfl) (LR.nil (hK3 _ _ ?_))
 refine CW.condp rfl (fun c9 => ?_) (fun c9 => ?_)
 ·
  exact absurd rfl c9
 ·
  refine CW.skip (hK2 _ _ (CW.s1 (fun hK4 => CW.region ?_)))
  refine LR.m1 ?_
  refine LR.v1 (Y.nilCheck rfl rfl) ?_
  refine LR.v1 (Y.FA hwv.pt rfl u'223 rfl s'213) ?_
  refine LR.v1 (Y.FA hwv.pt rfl u'213 rfl s'57) ?_
  refine LR.v1 (Y.load1 hwv.pt rfl a'57 rfl) ?_
  refine LR.a1 ?_
  refine LR.a1 (LR.nil (hK4 _ _ ?_))
  refine CW.ret (hret .ret (.inr rfl) _ _ _ (res2 rfl rfl rfl) ?_)
  exact ⟨rfl, hm0⟩
set_option maxHeartbeats 4000000 in
theorem wseq_ct (bw k : Nat) (s : SV) (xs : List UInt8) (x : TSq) (F : Nat → Prop) (w0 : World) (H0 : Heap)
 (hwv : Var 223 H0 bw [s.v, .int .i64 0, .int .i64 0]) (ow : Ow k 5 H0 fB 1 s.v xs) (hd : Dj (bw + 1) k) (hx : xs.length ≤ 274877906944) (hl : Rd F H0 fTd 33 x.tv.v x.td) (bf_hl : BF F H0.size) (f1 : DF F (bw + 1)) (f2 : DF F k) (e1 : 0 ≤ x.k ∧ x.k ≤ 255) (he0 : x.k ≠ 0 → EncQ x) :
 Ct Tryz.prog w0 103 #[.pointer (some ⟨bw, 0, none⟩), sqV x] H0 (fun r H2 => ∃ s2 : SV, ∃ k2 : Nat, r = .tuple #[] ∧ (Var 223 H2 bw [s2.v, .int .i64 0, .int .i64 0]) ∧ (Ow k2 5 H2 fB 1 s2.v (xs ++ sqT x)) ∧ (Nx k H0.size k2) ∧ (Dj (bw + 1) k2) ∧ Mo (Ms [(bw + 1), k]) H0 H2) := by
 refine Ct.enter (args := [.pointer (some ⟨bw, 0, none⟩), sqV x]) Tryz.func103 rfl rfl rfl ?_
 intro Q0 hret
 have hm0 : Mo (Ms [(bw + 1), k]) H0 H0 := Mo.refl _ _
 have nx_hm0_hwv := Nx.refl (bw + 1) H0.size
 have hlt_hwv := hwv.lt
 have nx_hm0_ow := Nx.refl k H0.size
 have hle_ow := ow.le
 have hll := hl.len
 refine CW.s1 (fun hK1 => CW.region ?_)
 refine LR.z1 (Z.boxv rfl rfl) fun v3 H3 r3 => ?_
 obtain ⟨rfl, va, hs3, ob3, hH3⟩ := r3
 have hzs3 : H3.size = H0.size + 1 := by rw [hH3]; simp
 have dj1 : Dj (bw + 1) (H0.size + 1) := Dj.new hwv.lt
 have dj2 : Dj k (H0.size + 1) := Dj.new ow.le
 replace hwv := hwv.nw hs3
 replace ow := ow.nw hs3
 replace hl := hl.nw hs3
 replace hm0 := hm0.trN hs3
 have hz1 := hs3.size
 replace va : Var 29 H3 H0.size (fSq x) := va
 refine LR.nil (hK1 _ _ (CW.s1 (fun hK2 => CW.region ?_)))
 refine LR.m1 ?_
 refine LR.v1 (Y.FA va.pt rfl u'29 rfl s'3) ?_
 refine LR.v1 (Y.cast (v2 := .int .i64 ((x.k).toNat : Nat)) (Y.load1 va.pt rfl a'3 rfl) (ivv (by omega))) ?_
 refine LR.v1 (Y.conv_u64 rfl u'3 u'216 rfl) ?_
 refine LR.call rfl c'99 rfl (Wd.u rfl) rfl rfl (wnum_ct _ _ _ _ 1 _ w0 _ hwv ow (hd) (by decide) (by omega)) (fun v10 H10 r10 => ?_)
 have ql7 := va.lt
 obtain ⟨s10, k10, rfl, hwv, ow, hk10, hd10, hs10⟩ := r10
 have df9 := DF.app (f2) (bf_hl.mono hm0.size) hk10
 have dj10 : Dj (H0.size + 1) k10 := Dj.app (dj2.symm) ql7 hk10
 have nx11 : Nx k H0.size k10 := Nx.tr (nx_hm0_ow) hk10 hm0.size
 replace hl := hl.upL hs10 (DFL.cons f1 (DFL.o f2))
 replace va := va.upL hs10 (DL.cons dj1.symm (DL.o dj2.symm))
 replace hm0 := hm0.trL hs10 (MIL.cons (MI.r nx_hm0_hwv) (MIL.o (MI.r nx_hm0_ow)))
 have hz2 := hs10.size
 have hle_ow := ow.le
 refine LR.nil (hK2 _ _ (CW.s2 (fun hK3 hE3 => CW.s1 (fun hK4 => CW.region ?_))))
 refine LR.v1 (Y.FA va.pt rfl u'29 rfl s'3) ?_
 refine LR.v1 (Y.load1 va.pt rfl a'3 rfl) ?_
 refine LR.v1 (Y.eql rfl rfl rfl) (LR.nil (hK4 _ _ ?_))
 refine CW.condp rfl (fun c13 => ?_) (fun c13 => ?_)
 ·
  have hk0 : x.k = 0 := by omega
  refine CW.ret (hE3 .ret nofun _ _ (hret .ret (.inr rfl) _ _ _ (res0 rfl) ?_))
  exact ⟨s10, k10, rfl, hwv, by rw [sqT_0 hk0]; exact ow, nx11, (hd10), hm0⟩
 ·
  have hk0 : x.k ≠ 0 := by omega
  have he := he0 hk0
  have e2 := he.br
  have e3 := he.td
  have e4 := he.dn
  have e5 := he.md
  refine CW.skip (hK3 _ _ (CW.s1 (fun hK5 => CW.region ?_)))
  refine LR.m1 ?_
  refine LR.v1 (Y.FA va.pt rfl u'29 rfl s'9) ?_
  refine LR.v1 (Y.load1 (va.pt.drop 1) rfl a'9 rfl) ?_
  refine LR.call rfl c'101 rfl (Wd.u rfl) rfl rfl (wtext_ct _ _ _ _ 1 x.br w0 _ hwv ow (hd10) (by simp only [List.length_append, numL_len, txB_len, x.og.2, x.cu.2]; omega) (by decide) (by omega)) (fun v17 H17 r17 => ?_)
  have ql14 := va.lt
  obtain ⟨s17, k17, rfl, hwv, ow, hk17, hd17, hs17⟩ := r17
  have df16 := DF.app (df9) (bf_hl.mono hm0.size) hk17
  have dj17 : Dj (H0.size + 1) k17 := Dj.app (dj10) ql14 hk17
  have nx18 : Nx k H0.size k17 := Nx.tr (nx11) hk17 hm0.size
  replace hl := hl.upL hs17 (DFL.cons f1 (DFL.o df9))
  replace va := va.upL hs17 (DL.cons dj1.symm (DL.o dj10))
  replace hm0 := hm0.trL hs17 (MIL.cons (MI.r nx_hm0_hwv) (MIL.o (MI.r nx11)))
  have hz3 := hs17.size
  have hle_ow := ow.le
  refine LR.nil (hK5 _ _ (CW.s1 (fun hK6 => CW.region ?_)))
  refine LR.m1 ?_
  refine LR.v1 (Y.FA va.pt rfl u'29 rfl s'26) ?_
  refine LR.v1 (Y.cast (v2 := vA x.og) (Y.loadN ((va.pt.drop 2).take 32) rfl a'26 s'26 (by rw [fSq_og]; exact fA_len _) rfl) (congrArg (fun z : List Value => Value.agg z.toArray) (fSq_og _))) ?_
  refine LR.call rfl c'102 rfl (Wd.u rfl) rfl rfl (wid_ct _ _ _ _ x.og w0 _ hwv ow (hd17) (by simp only [List.length_append, numL_len, txB_len, x.og.2, x.cu.2]; omega)) (fun v21 H21 r21 => ?_)
  have ql21 := va.lt
  obtain ⟨s21, k21, rfl, hwv, ow, hk21, hd21, hs21⟩ := r21
  have df23 := DF.app (df16) (bf_hl.mono hm0.size) hk21
  have dj24 : Dj (H0.size + 1) k21 := Dj.app (dj17) ql21 hk21
  have nx25 : Nx k H0.size k21 := Nx.tr (nx18) hk21 hm0.size
  replace hl := hl.upL hs21 (DFL.cons f1 (DFL.o df16))
  replace va := va.upL hs21 (DL.cons dj1.symm (DL.o dj17))
  replace hm0 := hm0.trL hs21 (MIL.cons (MI.r nx_hm0_hwv) (MIL.o (MI.r nx18)))
  have hz4 := hs21.size
  have hle_ow := ow.le
  refine LR.nil (hK6 _ _ (CW.s1 (fun hK7 => CW.region ?_)))
  refine LR.m1 ?_
  refine LR.v1 (Y.FA va.pt rfl u'29 rfl s'26) ?_
  refine LR.v1 (Y.cast (v2 := vA x.cu) (Y.loadN ((va.pt.drop 34).take 32) rfl a'26 s'26 (by rw [fSq_cu]; exact fA_len _) rfl) (congrArg (fun z : List Value => Value.agg z.toArray) (fSq_cu _))) ?_
  refine LR.call rfl c'102 rfl (Wd.u rfl) rfl rfl (wid_ct _ _ _ _ x.cu w0 _ hwv ow (hd21) (by simp only [List.length_append, numL_len, txB_len, x.og.2, x.cu.2]; omega)) (fun v25 H25 r25 => ?_)
  have ql28 := va.lt
  obtain ⟨s25, k25, rfl, hwv, ow, hk25, hd25, hs25⟩ := r25
  have df30 := DF.app (df23) (bf_hl.mono hm0.size) hk25
  have dj31 : Dj (H0.size + 1) k25 := Dj.app (dj24) ql28 hk25
  have nx32 : Nx k H0.size k25 := Nx.tr (nx25) hk25 hm0.size
  replace hl := hl.upL hs25 (DFL.cons f1 (DFL.o df23))
  replace va := va.upL hs25 (DL.cons dj1.symm (DL.o dj24))
  replace hm0 := hm0.trL hs25 (MIL.cons (MI.r nx_hm0_hwv) (MIL.o (MI.r nx25)))
  have hz5 := hs25.size
  have hle_ow := ow.le
  refine LR.nil (hK7 _ _ (CW.s1 (fun hK8 => CW.region ?_)))
  refine LR.m1 ?_
  refine LR.v1 (Y.FA va.pt rfl u'29 rfl s'27) ?_
  refine LR.v1 (Y.load1 va.pt.sq66 rfl a'27 rfl) ?_
  refine LR.v1 (Y.len hl rfl u'27 rfl) ?_
  refine LR.v1 (Y.conv_u64 rfl u'3 u'216 rfl) ?_
  refine LR.call rfl c'99 rfl (Wd.u rfl) rfl rfl (wnum_ct _ _ _ _ 2 _ w0 _ hwv ow (hd25) (by decide) (by simp only [List.length_append, numL_len, txB_len, x.og.2, x.cu.2]; omega)) (fun v31 H31 r31 => ?_)
  have ql35 := va.lt
  obtain ⟨s31, k31, rfl, hwv, ow, hk31, hd31, hs31⟩ := r31
  have df37 := DF.app (df30) (bf_hl.mono hm0.size) hk31
  have dj38 : Dj (H0.size + 1) k31 := Dj.app (dj31) ql35 hk31
  have nx39 : Nx k H0.size k31 := Nx.tr (nx32) hk31 hm0.size
  replace hl := hl.upL hs31 (DFL.cons f1 (DFL.o df30))
  replace va := va.upL hs31 (DL.cons dj1.symm (DL.o dj31))
  replace hm0 := hm0.trL hs31 (MIL.cons (MI.r nx_hm0_hwv) (MIL.o (MI.r nx32)))
  have hz6 := hs31.size
  have hle_ow := ow.le
  refine LR.nil (hK8 _ _ (CW.s1 (fun hK9 => CW.s1 (fun hK10 => CW.region ?_))))
  refine LR.v1 (Y.FA va.pt rfl u'29 rfl s'27) ?_
  refine LR.v1 (Y.load1 va.pt.sq66 rfl a'27 rfl) ?_
  refine LR.v1 (Y.len hl rfl u'27 rfl) ?_
  refine LR.m1 (LR.nil (hK10 _ _ ?_))
  refine CW.block (fun _ _ hX11 _ => ?_)
  refine CW.loop (fun (s_ : (Nat) × (SV) × (Nat) × (List UInt8)) => match s_ with | (i, s1, k1, ys) => [(0, .pointer (some ⟨bw, 0, none⟩)), (3, .pointer (some ⟨H0.size, 0, none⟩)), (33, x.tv.v), (34, .int .i64 x.td.length), (35, .int .i64 i)])
   (fun (s_ : (Nat) × (SV) × (Nat) × (List UInt8)) (H : Heap) => match s_ with | (i, s1, k1, ys) => (i ≤ x.td.length) ∧ (Var 223 H bw [s1.v, .int .i64 0, .int .i64 0]) ∧ (Ow k1 5 H fB 1 s1.v ys) ∧ (ys = xs ++ numL 1 (UInt64.ofNat x.k.toNat) ++ txB 1 x.br ++ x.og.1 ++ x.cu.1 ++ numL 2 (UInt64.ofNat x.td.length) ++ (x.td.take i).flatMap tdT) ∧ (Nx k31 H31.size k1) ∧ (Dj (bw + 1) k1) ∧ Mo (Ms [(bw + 1), k31]) H31 H)
   (fun (s_ : (Nat) × (SV) × (Nat) × (List UInt8)) => match s_ with | (i, s1, k1, ys) => x.td.length - i) (0, s31, k31, xs ++ numL 1 (UInt64.ofNat x.k.toNat) ++ txB 1 x.br ++ x.og.1 ++ x.cu.1 ++ numL 2 (UInt64.ofNat x.td.length)) ⟨rfl, rfl, rfl, rfl, rfl, trivial⟩ ?_ ?_
  ·
   exact ⟨(by omega), hwv, ow, (by simp), Nx.refl _ _, hd31, Mo.refl _ _⟩
  rintro ⟨i, s1, k1, ys⟩ HL1 hI1 K12 hN12 hE12
  obtain ⟨hi, hwv, ow, hys, nxl_ow, dj_hwv_ow, hlm1⟩ := hI1
  have dj41 : Dj (H0.size + 1) k1 := Dj.app (dj38) va.lt nxl_ow
  have nx42 : Nx k H0.size k1 := Nx.tr (nx39) nxl_ow hm0.size
  replace hl := hl.upL hlm1 (DFL.cons f1 (DFL.o df37))
  replace va := va.upL hlm1 (DL.cons dj1.symm (DL.o dj38))
  replace hm0 := hm0.trL hlm1 (MIL.cons (MI.r nx_hm0_hwv) (MIL.o (MI.r nx39)))
  have hz7 := hlm1.size
  have hle_ow := ow.le
  have dj43 := dj_hwv_ow
  have nx_hlm1_hwv := Nx.refl (bw + 1) H31.size
  have nx44 := nxl_ow
  have hyl : ys.length ≤ xs.length + 3000000 := by have hq := fm_le (f := tdT) (n := 33) (l := x.td.take i) (fun x _ => by rw [tdT_len]; omega); rw [List.length_take] at hq; rw [hys]; simp only [List.length_append, numL_len, txB_len, x.og.2, x.cu.2]; omega
  refine CW.s1 (fun hK13 => CW.region ?_)
  refine LR.v1 (Y.lss rfl rfl rfl) (LR.nil (hK13 _ _ ?_))
  refine CW.s2 (fun hK14 hE14 => ?_)
  refine CW.condp rfl (fun c36 => ?_) (fun c36 => ?_)
  ·
   refine CW.skip (hK14 _ _ (CW.s1 (fun hK15 => CW.block (fun _ hK16 _ _ => CW.s1 (fun hK17 => CW.region ?_)))))
   have hil : i < x.td.length := by omega
   obtain ⟨t, hte⟩ : ∃ t, t = x.td[i] := ⟨_, rfl⟩
   have hdi := he.dd t (by rw [hte]; exact List.getElem_mem hil)
   refine LR.e1 (g := fun ad => .pointer (some ad)) (Y.iF hl (i) rfl u'27 s'129 rfl rfl) fun ad37 pt37 => ?_
   refine LR.v1 (Y.cast (v2 := .agg (fTd t).toArray) (Y.loadN pt37.pt rfl a'129 s'129 (fTd_len _) rfl) (by rw [hte])) ?_
   refine LR.z1 (Z.allocv rfl z'129) fun v5 H5 r5 => ?_
   obtain ⟨rfl, vt, hs5, ob5, hH5⟩ := r5
   have hzs5 : H5.size = HL1.size + 1 := by rw [hH5]; simp
   have dj45 : Dj k1 (HL1.size + 1) := Dj.new ow.le
   have dj48 : Dj (bw + 1) (HL1.size + 1) := Dj.new hwv.lt
   have nx51 : Nx 0 H31.size (HL1.size + 1) := Nx.new hlm1.size
   replace ow := ow.nw hs5
   replace hwv := hwv.nw hs5
   replace hlm1 := hlm1.trN hs5
   have hz8 := hs5.size
   refine LR.s1 (S.var vt (_) (fTd t) rfl rfl rfl rfl (fTd_one t) s'129 (fTd_len _) (by decide) ((splice_all2 (fTd_len _).symm))) fun H9_3 r9_3 => ?_
   obtain ⟨vt, hs9_3⟩ := r9_3
   replace hs9_3 := hs9_3.md1
   replace ow := ow.upL hs9_3 (DL.o dj45)
   replace hwv := hwv.upL hs9_3 (DL.o dj48)
   replace hlm1 := hlm1.trL hs9_3 (MIL.o (MI.q nx51))
   have hz9 := hs9_3.size
   refine LR.nil (hK17 _ _ (CW.s1 (fun hK18 => CW.region ?_)))
   refine LR.m1 ?_
   refine LR.v1 (Y.FA vt.pt rfl u'129 rfl s'3) ?_
   refine LR.v1 (Y.cast (v2 := .int .i64 ((t.d).toNat : Nat)) (Y.load1 vt.pt rfl a'3 rfl) (ivv (by omega))) ?_
   refine LR.v1 (Y.conv_u64 rfl u'3 u'216 rfl) ?_
   refine LR.call rfl c'99 rfl (Wd.u rfl) rfl rfl (wnum_ct _ _ _ _ 1 _ w0 _ hwv ow (dj43) (by decide) (by omega)) (fun v43 H43 r43 => ?_)
   obtain ⟨s43, k43, rfl, hwv, ow, hk43, hd43, hs43⟩ := r43
   have nx61 : Nx k31 H31.size k43 := Nx.tr (nx44) hk43 hlm1.size
   replace vt := vt.upL hs43 (DL.cons dj48.symm (DL.o dj45.symm))
   replace hlm1 := hlm1.trL hs43 (MIL.cons (MI.r nx_hlm1_hwv) (MIL.o (MI.r nx44)))
   have hz10 := hs43.size
   have hle_ow := ow.le
   refine LR.nil (hK18 _ _ (CW.region ?_))
   refine LR.m1 ?_
   refine LR.v1 (Y.FA vt.pt rfl u'129 rfl s'26) ?_
   refine LR.v1 (Y.cast (v2 := vA t.i) (Y.loadN ((vt.pt.drop 1).take 32) rfl a'26 s'26 (by rw [fTd_i]; exact fA_len _) rfl) (congrArg (fun z : List Value => Value.agg z.toArray) (fTd_i _))) ?_
   refine LR.call rfl c'102 rfl (Wd.u rfl) rfl rfl (wid_ct _ _ _ _ t.i w0 _ hwv ow (hd43) (by rw [List.length_append, numL_len]; omega)) (fun v47 H47 r47 => ?_)
   obtain ⟨s47, k47, rfl, hwv, ow, hk47, hd47, hs47⟩ := r47
   have nx71 : Nx k31 H31.size k47 := Nx.tr (nx61) hk47 hlm1.size
   replace hlm1 := hlm1.trL hs47 (MIL.cons (MI.r nx_hlm1_hwv) (MIL.o (MI.r nx61)))
   have hz11 := hs47.size
   have hle_ow := ow.le
   refine LR.nil (hK16 _ _ (hK15 _ _ (CW.region ?_)))
   refine LR.v1 (Y.addi rfl rfl rfl (by omega)) ?_
   refine LR.m1 (LR.nil ?_)
   refine QN.sub (hN12 (i + 1, s47, k47, ys ++ numL 1 (UInt64.ofNat t.d.toNat) ++ t.i.1) _ ?_ ?_) ⟨rfl, rfl, rfl, (iv (by omega)), (iv (by omega)), trivial⟩
   · exact ⟨(by omega), hwv, ow, (by rw [fm_snoc hil, ← hte, hys, tdT]; simp only [List.append_assoc]), nx71, hd47, hlm1⟩
   · first | omega | (simp only; omega) | (simp; omega)
  ·
   obtain rfl : i = x.td.length := by omega
   rw [List.take_length] at hys
   refine CW.exit (hE14 (.exit 0) nofun _ _ (hE12 (.exit 0) nofun _ _ (hX11 _ _ ?_)))
   refine hK9 _ _ (CW.s1 (fun hK19 => CW.region ?_))
   refine LR.m1 ?_
   refine LR.v1 (Y.FA va.pt rfl u'29 rfl s'3) ?_
   refine LR.v1 (Y.cast (v2 := .int .i64 ((x.dn).toNat : Nat)) (Y.load1 va.pt.sq67 rfl a'3 rfl) (ivv (by omega))) ?_
   refine LR.v1 (Y.conv_u64 rfl u'3 u'216 rfl) ?_
   refine LR.call rfl c'99 rfl (Wd.u rfl) rfl rfl (wnum_ct _ _ _ _ 2 _ w0 _ hwv ow (dj43) (by decide) (by omega)) (fun v53 H53 r53 => ?_)
   have ql73 := va.lt
   obtain ⟨s53, k53, rfl, hwv, ow, hk53, hd53, hs53⟩ := r53
   have dj76 : Dj (H0.size + 1) k53 := Dj.app (dj41) ql73 hk53
   have nx78 : Nx k H0.size k53 := Nx.tr (nx42) hk53 hm0.size
   replace va := va.upL hs53 (DL.cons dj1.symm (DL.o dj41))
   replace hm0 := hm0.trL hs53 (MIL.cons (MI.r nx_hm0_hwv) (MIL.o (MI.r nx42)))
   have hz12 := hs53.size
   have hle_ow := ow.le
   refine LR.nil (hK19 _ _ (CW.s1 (fun hK20 => CW.region ?_)))
   refine LR.m1 ?_
   refine LR.v1 (Y.FA va.pt rfl u'29 rfl s'3) ?_
   refine LR.v1 (Y.cast (v2 := .int .i64 ((x.md).toNat : Nat)) (Y.load1 va.pt.sq68 rfl a'3 rfl) (ivv (by omega))) ?_
   refine LR.v1 (Y.conv_u64 rfl u'3 u'216 rfl) ?_
   refine LR.call rfl c'99 rfl (Wd.u rfl) rfl rfl (wnum_ct _ _ _ _ 2 _ w0 _ hwv ow (hd53) (by decide) (by rw [List.length_append, numL_len]; omega)) (fun v58 H58 r58 => ?_)
   obtain ⟨s58, k58, rfl, hwv, ow, hk58, hd58, hs58⟩ := r58
   have nx85 : Nx k H0.size k58 := Nx.tr (nx78) hk58 hm0.size
   replace va := va.upL hs58 (DL.cons dj1.symm (DL.o dj76))
   replace hm0 := hm0.trL hs58 (MIL.cons (MI.r nx_hm0_hwv) (MIL.o (MI.r nx78)))
   have hz13 := hs58.size
   have hle_ow := ow.le
   refine LR.nil (hK20 _ _ (CW.region ?_))
   refine LR.m1 ?_
   refine LR.v1 (Y.FA va.pt rfl u'29 rfl s'4) ?_
   refine LR.v1 (Y.load1 va.pt.sq69 rfl a'4 rfl) ?_
   refine LR.call rfl c'100 rfl (Wd.u rfl) rfl rfl (truth_ct x.st 1 w0 _) (fun v62 H62 r62 => ?_)
   obtain ⟨rfl, hs62⟩ := r62
   replace ow := ow.nw hs62
   replace hwv := hwv.nw hs62
   replace hm0 := hm0.trN hs62
   have hz14 := hs62.size
   refine LR.call rfl c'99 rfl (Wd.u rfl) rfl rfl (wnum_ct _ _ _ _ 1 _ w0 _ hwv ow (hd58) (by decide) (by simp only [List.length_append, numL_len]; omega)) (fun v63 H63 r63 => ?_)
   obtain ⟨s63, k63, rfl, hwv, ow, hk63, hd63, hs63⟩ := r63
   have nx92 : Nx k H0.size k63 := Nx.tr (nx85) hk63 hm0.size
   replace hm0 := hm0.trL hs63 (MIL.cons (MI.r nx_hm0_hwv) (MIL.o (MI.r nx85)))
   refine LR.nil ?_
   refine hret .normal (.inl rfl) _ _ _ (res0 rfl) ?_
   exact ⟨s63, k63, rfl, hwv, by rw [sqT_1 hk0]; rw [hys] at ow; simpa only [List.append_assoc] using ow, nx92, (hd63), hm0⟩
end Go.Proofs.YtfjmpninmdjcaaaGreatDoor.RefQ

namespace Go.Proofs.YtfjmpninmdjcaaaGreatDoor.RefR
open E Go.RowKit NamA NamB NamC NamD RefA RefB RefP RefQ Num
set_option maxRecDepth 20000
set_option maxRecDepth 100000 in
theorem inf83 : Inf Tryz.prog 83 3 1 8 := ⟨Tryz.underlying83, _, _, rfl, rfl, rfl, rfl, rfl⟩
def preT (t : TTx) : List UInt8 := numL 1 (flT t) ++ (if t.hh = true then txB 1 t.hd else [])
theorem preT_len {t : TTx} (h : EncX t) : (preT t).length ≤ 257 := by
 unfold preT
 rw [List.length_append, numL_len]
 split
 · rename_i h1; rw [txB_len]; have := h.hd h1; omega
 · simp
def midT (t : TTx) : List UInt8 := preT t ++ numL 2 (UInt64.ofNat t.ml.length) ++ t.ml.flatMap mvT ++ (if t.hs = true then sqT t.q else [])
theorem mls_len {t : TTx} (h : EncX t) (i : Nat) : ((t.ml.take i).flatMap mvT).length ≤ 66000 * i := by
 have h1 := fm_le (f := mvT) (n := 66000) (l := t.ml.take i) (fun x hx => by rw [mvT_len]; have := h.mn x (List.mem_of_mem_take hx); omega)
 have h2 : (t.ml.take i).length ≤ i := by rw [List.length_take]; exact Nat.min_le_left _ _
 have h3 : 66000 * (t.ml.take i).length ≤ 66000 * i := Nat.mul_le_mul_left _ h2
 omega
theorem els_len {t : TTx} (h : EncX t) (i : Nat) : ((t.el.take i).flatMap mmT).length ≤ 66000 * i := by
 have h1 := fm_le (f := mmT) (n := 66000) (l := t.el.take i) (fun x hx => by rw [mmT_len]; have := h.md x (List.mem_of_mem_take hx); omega)
 have h2 : (t.el.take i).length ≤ i := by rw [List.length_take]; exact Nat.min_le_left _ _
 have h3 : 66000 * (t.el.take i).length ≤ 66000 * i := Nat.mul_le_mul_left _ h2
 omega
theorem midT_len {t : TTx} (h : EncX t) : (midT t).length ≤ 4400000000 := by
 have h1 := preT_len h
 have h2 := mls_len h t.ml.length
 rw [List.take_length] at h2
 have h3 := h.ml
 unfold midT
 simp only [List.length_append, numL_len]
 split
 · rename_i h4
   by_cases h5 : t.q.k = 0
   · rw [sqT_0 h5, numL_len]; omega
   · have := sqT_len (h.sq h4 h5); omega
 · rw [List.length_nil]; omega
theorem encT_eq (t : TTx) : encT t = midT t ++ numL 2 (UInt64.ofNat t.el.length) ++ t.el.flatMap mmT := by unfold encT midT preT; simp only [List.append_assoc]
section
variable {H : Heap} {ad : Addr}
theorem _root_.Go.Proofs.YtfjmpninmdjcaaaGreatDoor.E.Pt.tx4 {x : TTx} (h : Pt H ad (fTx x)) : Pt H (ad.add 4) (fSq x.q ++ [x.ev.v]) := h.drop 4
theorem _root_.Go.Proofs.YtfjmpninmdjcaaaGreatDoor.E.Pt.tx4k {x : TTx} (h : Pt H ad (fTx x)) : Pt H ((ad.add 4).add 0) (fSq x.q ++ [x.ev.v]) := h.tx4.drop 0
end
theorem asked_ct (x : TTx) (w0 : World) (H0 : Heap)
 :
 Ct Tryz.prog w0 141 #[txV x] H0 (fun r H2 => r = .tuple #[sqV x.q, .bool (x.hs && decide (x.q.k ≠ 0))] ∧ Nw H0 H2) := by
 refine Ct.enter (args := [txV x]) Tryz.func141 rfl rfl rfl ?_
 intro Q0 hret
 have hm0 : Nw H0 H0 := Mo.refl _ _
 refine CW.s1 (fun hK1 => CW.region ?_)
 refine LR.z1 (Z.boxv rfl rfl) fun v1 H1 r1 => ?_
 obtain ⟨rfl, va, hs1, ob1, hH1⟩ := r1
 have hzs1 : H1.size = H0.size + 1 := by rw [hH1]; simp
 replace hm0 := hm0.tr hs1
 have hz1 := hs1.size
 replace va : Var 32 H1 H0.size (fTx x) := va
 refine LR.z1 (Z.allocv rfl z'29) fun v2 H2 r2 => ?_
 obtain ⟨rfl, vq, hs2, ob2, hH2⟩ := r2
 have hzs2 : H2.size = H1.size + 1 := by rw [hH2]; simp
 have dj2 : Dj (H0.size + 1) (H1.size + 1) := Dj.new va.lt
 have nx3 : Nx 0 H0.size (H1.size + 1) := Nx.new hm0.size
 replace va := va.nw hs2
 replace hm0 := hm0.tr hs2
 have hz2 := hs2.size
 refine LR.a1 (LR.nil (hK1 _ _ ?_))
 refine CW.s1 (fun hK2 => ?_)
 refine CW.region_any (fun Hq => Mo (Ms [(H1.size + 1)]) H2 Hq) [] rfl ?_
 have hq1 : Mo (Ms [(H1.size + 1)]) H2 H2 := Mo.refl _ _
 have nx4 := Nx.refl (H1.size + 1) H2.size
 refine LH.t1 0 rfl (fun Hq hq => Y.fieldAddr (va.upL hq (DL.o dj2)).pt rfl u'32 rfl rfl s'29 (by decide) rfl) hq1 ?_
 refine LH.t1 1 rfl (fun Hq hq => Y.cast (v2 := sqV x.q) (Y.loadN (((va.upL hq (DL.o dj2)).pt.drop 4).take 70) rfl a'29 s'29 (by rw [fTx_q]; exact fSq_len _) rfl) (congrArg (fun z : List Value => Value.agg z.toArray) (fTx_q x))) hq1 ?_
 refine LH.t1 2 rfl (fun Hq hq => Y.fieldAddr (va.upL hq (DL.o dj2)).pt rfl u'32 rfl rfl s'4 (by decide) rfl) hq1 ?_
 refine LH.t1 3 rfl (fun Hq hq => Y.load1 ((va.upL hq (DL.o dj2)).pt.drop 3) rfl a'4 rfl) hq1 ?_
 refine LH.m1 4 rfl hq1 ?_
 refine LH.split (d := 8) rfl (fun g8 => ?_) (fun g8 => ?_)
 ·
  refine LH.u1 5 rfl (fun Hq hq => Y.fieldAddr (va.upL hq (DL.o dj2)).pt rfl u'32 rfl rfl s'29 (by decide) rfl) (Wd.g rfl rfl rfl) hq1 ?_
  refine LH.u1 6 rfl (fun Hq hq => Y.fieldAddr ((va.upL hq (DL.o dj2)).pt.drop 4) rfl u'29 rfl rfl s'3 (by decide) rfl) (Wd.g rfl rfl rfl) hq1 ?_
  refine LH.u1 7 rfl (fun Hq hq => Y.load1 (va.upL hq (DL.o dj2)).pt.tx4k rfl a'3 rfl) (Wd.g rfl rfl rfl) hq1 ?_
  refine LH.u1 8 rfl (fun Hq hq => Y.neq rfl rfl rfl) (Wd.g rfl rfl rfl) hq1 ?_
  refine LH.t1 9 rfl (fun Hq hq => Y.pick_t rfl rfl rfl) hq1 ?_
  refine LH.o1 10 ?_
  refine LO.s rfl (S.var vq (_) (fSq x.q) rfl rfl rfl rfl (fSq_one x.q) s'29 (fSq_len _) (by decide) ((splice_all2 (fSq_len _).symm))) (Wd.u rfl) rfl (fun H1_10 r1_10 => ?_)
  obtain ⟨vq, hs1_10⟩ := r1_10
  replace hs1_10 := hs1_10.md1
  replace hm0 := hm0.tq hs1_10 (MIL.o (MI.q nx3))
  replace hq1 := hq1.trL hs1_10 (MIL.o (MI.r nx4))
  have hz3 := hs1_10.size
  refine ⟨.inr hq1, LH.narrow (SH2 := fun Hq => Mo (Ms [(H1.size + 1)]) H1_10 Hq) (fun Hq hq => hq1.trL hq (MIL.o (MI.r nx4))) ?_⟩
  have hq1 : Mo (Ms [(H1.size + 1)]) H1_10 H1_10 := Mo.refl _ _
  refine LH.t1 11 rfl (fun Hq hq => Y.assign rfl rfl) hq1 ?_
  refine LH.done (by kernel_rfl) ?_
  refine hK2 _ _ ?_
  refine CW.ret (hret .ret (.inr rfl) _ _ _ (resCT rfl rfl vq.pt a'29 s'29 (fSq_len _) rfl) ?_)
  exact ⟨by first | (rw [show x.hs = true by assumption]; rfl) | (rw [show x.hs = false by simp_all]; rfl), hm0⟩
 ·
  refine LH.g1 5 rfl rfl rfl rfl hq1 ?_
  refine LH.g1 6 rfl rfl rfl rfl hq1 ?_
  refine LH.g1 7 rfl rfl rfl rfl hq1 ?_
  refine LH.g1 8 rfl rfl rfl rfl hq1 ?_
  refine LH.t1 9 rfl (fun Hq hq => Y.pick_f rfl rfl rfl) hq1 ?_
  refine LH.o1 10 ?_
  refine LO.s rfl (S.var vq (_) (fSq x.q) rfl rfl rfl rfl (fSq_one x.q) s'29 (fSq_len _) (by decide) ((splice_all2 (fSq_len _).symm))) (Wd.u rfl) rfl (fun H1_10 r1_10 => ?_)
  obtain ⟨vq, hs1_10⟩ := r1_10
  replace hs1_10 := hs1_10.md1
  replace hm0 := hm0.tq hs1_10 (MIL.o (MI.q nx3))
  replace hq1 := hq1.trL hs1_10 (MIL.o (MI.r nx4))
  have hz4 := hs1_10.size
  refine ⟨.inr hq1, LH.narrow (SH2 := fun Hq => Mo (Ms [(H1.size + 1)]) H1_10 Hq) (fun Hq hq => hq1.trL hq (MIL.o (MI.r nx4))) ?_⟩
  have hq1 : Mo (Ms [(H1.size + 1)]) H1_10 H1_10 := Mo.refl _ _
  refine LH.t1 11 rfl (fun Hq hq => Y.assign rfl rfl) hq1 ?_
  refine LH.done (by kernel_rfl) ?_
  refine hK2 _ _ ?_
  refine CW.ret (hret .ret (.inr rfl) _ _ _ (resCT rfl rfl vq.pt a'29 s'29 (fSq_len _) rfl) ?_)
  exact ⟨by first | (rw [show x.hs = true by assumption]; rfl) | (rw [show x.hs = false by simp_all]; rfl), hm0⟩
set_option maxHeartbeats 4000000 in
theorem wrong_ct (x : TTx) (w0 : World) (H0 : Heap)
 (hm : RdT H0 fMv 66 x.mv.v x.ml) (hl : RdT H0 fTd 33 x.q.tv.v x.q.td) (he : RdT H0 fMm 33 x.ev.v x.el) (hd : ∀ y ∈ x.el, RdT H0 fB 1 y.v.v y.d) (hx : EncX x) :
 Ct Tryz.prog w0 98 #[txV x] H0 (fun r H2 => r = .int .i64 0 ∧ Nw H0 H2) := by
 refine Ct.enter (args := [txV x]) Tryz.func98 rfl rfl rfl ?_
 intro Q0 hret
 have hm0 : Nw H0 H0 := Mo.refl _ _
 replace hm := hm.bnd
 have bf_hm := hm.bf
 replace hl := hl.bnd
 have bf_hl := hl.bf
 replace he := he.bnd
 have bf_he := he.bf
 replace hd := fun y hy0 => (hd y hy0).bnd
 have bf_hd : BF (fun b => True ∧ b < H0.size) H0.size := fun b h => h.2
 have hml := hm.len
 have hll := hl.len
 have hel := he.len
 have e1 := hx.ml
 have e2 := hx.el
 obtain ⟨isB, hib⟩ : ∃ b, b = (x.hs && decide (x.q.k ≠ 0)) := ⟨_, rfl⟩
 have his : isB = true → x.hs = true ∧ x.q.k ≠ 0 := fun h => by rw [hib, Bool.and_eq_true, decide_eq_true_eq] at h; exact h
 refine CW.s1 (fun hK1 => CW.region ?_)
 refine LR.z1 (Z.boxv rfl rfl) fun v1 H1 r1 => ?_
 obtain ⟨rfl, va, hs1, ob1, hH1⟩ := r1
 have hzs1 : H1.size = H0.size + 1 := by rw [hH1]; simp
 replace hm := hm.nw hs1
 replace hl := hl.nw hs1
 replace he := he.nw hs1
 replace hd := fun y hy0 => (hd y hy0).nw hs1
 replace hm0 := hm0.tr hs1
 have hz1 := hs1.size
 replace va : Var 32 H1 H0.size (fTx x) := va
 refine LR.a1 (LR.nil (hK1 _ _ ?_))
 refine CW.s1 (fun hK2 => CW.region ?_)
 refine LR.v1 (Y.build (v := .agg #[(.slice none 0 0), .int .i64 0, .int .i64 0]) rfl rfl (by intro w; kernel_rfl)) ?_
 refine LR.z1 (Z.boxv rfl rfl) fun v15 H15 r15 => ?_
 obtain ⟨rfl, vsr, hs15, ob15, hH15⟩ := r15
 have hzs15 : H15.size = H1.size + 1 := by rw [hH15]; simp
 replace hm := hm.nw hs15
 replace hl := hl.nw hs15
 replace he := he.nw hs15
 replace hd := fun y hy0 => (hd y hy0).nw hs15
 replace va := va.nw hs15
 replace hm0 := hm0.tr hs15
 have hz2 := hs15.size
 replace vsr : Var 213 H15 H1.size ([(.slice none 0 0), .int .i64 0, .int .i64 0]) := vsr
 refine LR.a1 (LR.nil (hK2 _ _ ?_))
 refine CW.s1 (fun hK3 => CW.region ?_)
 refine LR.v1 (Y.loadN va.pt rfl a'32 s'32 (fTx_len _) rfl) ?_
 refine LR.call rfl c'141 rfl (Wd.u rfl) rfl rfl (asked_ct x w0 _) (fun v18 H18 r18 => ?_)
 obtain ⟨rfl, hs18⟩ := r18
 replace hm := hm.nw hs18
 replace hl := hl.nw hs18
 replace he := he.nw hs18
 replace hd := fun y hy0 => (hd y hy0).nw hs18
 replace va := va.nw hs18
 replace vsr := vsr.nw hs18
 replace hm0 := hm0.tr hs18
 have hz3 := hs18.size
 rw [← hib]
 refine LR.m1 ?_
 refine LR.v1 (Y.extract rfl rfl rfl) ?_
 refine LR.v1 (Y.extract rfl rfl rfl) ?_
 refine LR.z1 (Z.allocv rfl z'29) fun v4 H4 r4 => ?_
 obtain ⟨rfl, vs, hs4, ob4, hH4⟩ := r4
 have hzs4 : H4.size = H18.size + 1 := by rw [hH4]; simp
 have df12 := (DF.new (bf_hm.mono hm0.size) : DF _ (H18.size + 1))
 have df13 := (DF.new (bf_hl.mono hm0.size) : DF _ (H18.size + 1))
 have df14 := (DF.new (bf_he.mono hm0.size) : DF _ (H18.size + 1))
 have df15 := (DF.new (bf_hd.mono hm0.size) : DF _ (H18.size + 1))
 have dj16 : Dj (H0.size + 1) (H18.size + 1) := Dj.new va.lt
 have dj17 : Dj (H1.size + 1) (H18.size + 1) := Dj.new vsr.lt
 have nx18 : Nx 0 H0.size (H18.size + 1) := Nx.new hm0.size
 replace hm := hm.nw hs4
 replace hl := hl.nw hs4
 replace he := he.nw hs4
 replace hd := fun y hy0 => (hd y hy0).nw hs4
 replace va := va.nw hs4
 replace vsr := vsr.nw hs4
 replace hm0 := hm0.tr hs4
 have hz4 := hs4.size
 refine LR.s1 (S.var vs (_) (fSq x.q) rfl rfl rfl rfl (fSq_one x.q) s'29 (fSq_len _) (by decide) ((splice_all2 (fSq_len _).symm))) fun H2_6 r2_6 => ?_
 obtain ⟨vs, hs2_6⟩ := r2_6
 replace hs2_6 := hs2_6.md1
 replace hm := hm.upL hs2_6 (DFL.o df12)
 replace hl := hl.upL hs2_6 (DFL.o df13)
 replace he := he.upL hs2_6 (DFL.o df14)
 replace hd := fun y hy0 => (hd y hy0).upL hs2_6 (DFL.o df15)
 replace va := va.upL hs2_6 (DL.o dj16)
 replace vsr := vsr.upL hs2_6 (DL.o dj17)
 replace hm0 := hm0.tq hs2_6 (MIL.o (MI.q nx18))
 have hz5 := hs2_6.size
 refine LR.a1 (LR.nil (hK3 _ _ ?_))
 refine CW.cut (fun (_ : Unit) => [(1, .pointer (some ⟨H0.size, 0, none⟩)), (3, .pointer (some ⟨H1.size, 0, none⟩)), (4, .pointer (some ⟨H18.size, 0, none⟩)), (5, .bool isB)])
  (fun (_ : Unit) (H : Heap) => (True) ∧ Nw H2_6 H) (fun _ hK4 _ => ?_) ?_
 ·
  have hcm4 : Nw H2_6 H2_6 := Mo.refl _ _
  refine CW.region ?_
  refine LR.m1 ?_
  refine LR.v1 (Y.FA va.pt rfl u'32 rfl s'24) ?_
  refine LR.v1 (Y.load1 (va.pt.drop 2) rfl a'24 rfl) ?_
  refine LR.v1 (Y.len hm rfl u'24 rfl) ?_
  refine LR.v1 ((Y.leq rfl rfl rfl).isT (by omega)) ?_
  refine LR.m1 ?_
  refine LR.w1 (Y.FA va.pt rfl u'32 rfl s'30) ?_
  refine LR.w1 (Y.load1 va.pt.tx74 rfl a'30 rfl) ?_
  refine LR.w1 (Y.len he rfl u'30 rfl) ?_
  refine LR.w1 ((Y.leq rfl rfl rfl).isT (by omega)) ?_
  refine LR.v1 (Y.pick_t rfl rfl rfl) ?_
  refine LR.m1 ?_
  refine LR.w1 (Y.move rfl rfl) ?_
  refine LR.w1 (Y.not rfl rfl) ?_
  refine LR.w1 (Y.move rfl rfl) ?_
  refine LR.split (d := 35) rfl (fun g35 => ?_) (fun g35 => ?_)
  ·
   refine LR.g1 ?_
   refine LR.g1 ?_
   refine LR.g1 ?_
   refine LR.g1 ?_
   refine LR.w1 (Y.pick_t rfl rfl rfl) ?_
   refine LR.v1 (Y.pick_t rfl rfl rfl) ?_
   refine LR.call rfl c'93 rfl (Wd.u rfl) rfl rfl (smust_ct _ 4 w0 _) (fun v42 H42 r42 => ?_)
   obtain ⟨rfl, hs42⟩ := r42
   replace hd := fun y hy0 => (hd y hy0).nw hs42
   replace hcm4 := hcm4.tr hs42
   have hz6 := hs42.size
   refine LR.nil ?_
   refine QN.sub (hK4 () _ ?_) ⟨rfl, rfl, rfl, rfl, trivial⟩
   exact ⟨trivial, hcm4⟩
  ·
   have hq := his (by simpa using g35)
   have hqe := hx.sq hq.1 hq.2
   have q1 := hqe.td
   refine LR.w1 (Y.FA vs.pt rfl u'29 rfl s'27) ?_
   refine LR.w1 (Y.load1 vs.pt.sq66 rfl a'27 rfl) ?_
   refine LR.w1 (Y.len hl rfl u'27 rfl) ?_
   refine LR.w1 ((Y.leq rfl rfl rfl).isT (by omega)) ?_
   refine LR.w1 (Y.pick_f rfl rfl rfl) ?_
   refine LR.v1 (Y.pick_t rfl rfl rfl) ?_
   refine LR.call rfl c'93 rfl (Wd.u rfl) rfl rfl (smust_ct _ 4 w0 _) (fun v42 H42 r42 => ?_)
   obtain ⟨rfl, hs42⟩ := r42
   replace hd := fun y hy0 => (hd y hy0).nw hs42
   replace hcm4 := hcm4.tr hs42
   have hz7 := hs42.size
   refine LR.nil ?_
   refine QN.sub (hK4 () _ ?_) ⟨rfl, rfl, rfl, rfl, trivial⟩
   exact ⟨trivial, hcm4⟩
 ·
  intro _ Hcutr3 hIcutr3
  obtain ⟨htr, hlmcutr3⟩ := hIcutr3
  replace hm := hm.nw hlmcutr3
  replace hl := hl.nw hlmcutr3
  replace he := he.nw hlmcutr3
  replace hd := fun y hy0 => (hd y hy0).nw hlmcutr3
  replace va := va.nw hlmcutr3
  replace vsr := vsr.nw hlmcutr3
  replace vs := vs.nw hlmcutr3
  replace hm0 := hm0.tr hlmcutr3
  have hz8 := hlmcutr3.size
  refine CW.cut (fun (_ : Unit) => [(1, .pointer (some ⟨H0.size, 0, none⟩)), (3, .pointer (some ⟨H1.size, 0, none⟩)), (4, .pointer (some ⟨H18.size, 0, none⟩)), (5, .bool isB)])
   (fun (_ : Unit) (H : Heap) => (True) ∧ Nw Hcutr3 H) (fun _ hK5 _ => ?_) ?_
  ·
   have hcm5 : Nw Hcutr3 Hcutr3 := Mo.refl _ _
   refine CW.region_any (fun Hq => Nw Hcutr3 Hq) [] rfl ?_
   have hqs := Nw.refl Hcutr3
   refine LH.m1 0 rfl hqs ?_
   refine LH.t1 1 rfl (fun Hq hq => Y.FA (va.pt.nw hq) rfl u'32 rfl s'4) hqs ?_
   refine LH.t1 2 rfl (fun Hq hq => Y.load1 (va.pt.nw hq) rfl a'4 rfl) hqs ?_
   refine LH.t1 3 rfl (fun Hq hq => Y.not rfl rfl) hqs ?_
   refine LH.m1 4 rfl hqs ?_
   refine LH.split (d := 47) rfl (fun g47 => ?_) (fun g47 => ?_)
   ·
    refine LH.g1 5 rfl rfl rfl rfl hqs ?_
    refine LH.g1 6 rfl rfl rfl rfl hqs ?_
    refine LH.g1 7 rfl rfl rfl rfl hqs ?_
    refine LH.g1 8 rfl rfl rfl rfl hqs ?_
    refine LH.g1 9 rfl rfl rfl rfl hqs ?_
    refine LH.t1 10 rfl (fun Hq hq => Y.pick_t rfl rfl rfl) hqs ?_
    refine LH.o1 11 ?_
    refine LO.call rfl rfl c'93 rfl (Wd.u rfl) rfl rfl (smust_ct _ 5 w0 _) (fun v54 H54 r54 => ?_)
    obtain ⟨rfl, hs54⟩ := r54
    replace hd := fun y hy0 => (hd y hy0).nw hs54
    replace hcm5 := hcm5.tr hs54
    have hz9 := hs54.size
    have hq54 := hqs.tr hs54
    refine ⟨.inr hq54, LH.narrow (SH2 := fun Hq => Nw H54 Hq) (fun Hq hq => hq54.tr hq) ?_⟩
    have hqn54 := Nw.refl H54
    refine LH.done (by kernel_rfl) ?_
    have hqe := hqn54
    refine QN.sub (hK5 () _ ?_) ⟨rfl, rfl, rfl, rfl, trivial⟩
    exact ⟨trivial, hcm5⟩
   ·
    have hhd := hx.hd (by simpa using g47)
    refine LH.u1 5 rfl (fun Hq hq => Y.FA (va.pt.nw hq) rfl u'32 rfl s'9) (Wd.g rfl rfl rfl) hqs ?_
    refine LH.u1 6 rfl (fun Hq hq => Y.load1 ((va.pt.drop 1).nw hq) rfl a'9 rfl) (Wd.g rfl rfl rfl) hqs ?_
    refine LH.u1 7 rfl (fun Hq hq => Y.slen rfl u'9 rfl) (Wd.g rfl rfl rfl) hqs ?_
    refine LH.o1 8 ?_
    refine LO.call rfl rfl c'183 rfl (Wd.g rfl rfl rfl) rfl rfl (longest1_ct w0 _) (fun v51 H51 r51 => ?_)
    obtain ⟨rfl, hs51⟩ := r51
    replace hd := fun y hy0 => (hd y hy0).nw hs51
    replace hcm5 := hcm5.tr hs51
    have hz10 := hs51.size
    have hq51 := hqs.tr hs51
    refine ⟨.inr hq51, LH.narrow (SH2 := fun Hq => Nw H51 Hq) (fun Hq hq => hq51.tr hq) ?_⟩
    have hqn51 := Nw.refl H51
    refine LH.u1 9 rfl (fun Hq hq => (Y.leq rfl rfl rfl).isT (by omega)) (Wd.g rfl rfl rfl) hqn51 ?_
    refine LH.t1 10 rfl (fun Hq hq => Y.pick_f rfl rfl rfl) hqn51 ?_
    refine LH.o1 11 ?_
    refine LO.call rfl rfl c'93 rfl (Wd.u rfl) rfl rfl (smust_ct _ 5 w0 _) (fun v54 H54 r54 => ?_)
    obtain ⟨rfl, hs54⟩ := r54
    replace hd := fun y hy0 => (hd y hy0).nw hs54
    replace hcm5 := hcm5.tr hs54
    have hz11 := hs54.size
    have hq54 := hqn51.tr hs54
    refine ⟨.inr hq54, LH.narrow (SH2 := fun Hq => Nw H54 Hq) (fun Hq hq => hq54.tr hq) ?_⟩
    have hqn54 := Nw.refl H54
    refine LH.done (by kernel_rfl) ?_
    have hqe := hqn54
    refine QN.sub (hK5 () _ ?_) ⟨rfl, rfl, rfl, rfl, trivial⟩
    exact ⟨trivial, hcm5⟩
  ·
   intro _ Hcutr4 hIcutr4
   obtain ⟨htr, hlmcutr4⟩ := hIcutr4
   replace hm := hm.nw hlmcutr4
   replace hl := hl.nw hlmcutr4
   replace he := he.nw hlmcutr4
   replace hd := fun y hy0 => (hd y hy0).nw hlmcutr4
   replace va := va.nw hlmcutr4
   replace vsr := vsr.nw hlmcutr4
   replace vs := vs.nw hlmcutr4
   replace hm0 := hm0.tr hlmcutr4
   have hz12 := hlmcutr4.size
   refine CW.s1 (fun hK6 => CW.s1 (fun hK7 => CW.region ?_))
   refine LR.v1 (Y.FA va.pt rfl u'32 rfl s'24) ?_
   refine LR.v1 (Y.load1 (va.pt.drop 2) rfl a'24 rfl) ?_
   refine LR.v1 (Y.len hm rfl u'24 rfl) ?_
   refine LR.m1 (LR.nil (hK7 _ _ ?_))
   refine CW.block (fun _ _ hX8 _ => ?_)
   refine CW.loop (fun (i : (Nat)) => [(1, .pointer (some ⟨H0.size, 0, none⟩)), (3, .pointer (some ⟨H1.size, 0, none⟩)), (4, .pointer (some ⟨H18.size, 0, none⟩)), (5, .bool isB), (56, x.mv.v), (57, .int .i64 (x.ml.length : Int)), (58, .int .i64 i)])
    (fun (i : (Nat)) (H : Heap) => (i ≤ x.ml.length) ∧ Nw Hcutr4 H)
    (fun (i : (Nat)) => x.ml.length - i) 0 ⟨rfl, rfl, rfl, rfl, rfl, rfl, rfl, trivial⟩ ?_ ?_
   ·
    exact ⟨(by omega), Mo.refl _ _⟩
   intro i HL1 hI1 K9 hN9 hE9
   obtain ⟨hi, hlm1⟩ := hI1
   replace hm := hm.nw hlm1
   replace hl := hl.nw hlm1
   replace he := he.nw hlm1
   replace hd := fun y hy0 => (hd y hy0).nw hlm1
   replace va := va.nw hlm1
   replace vsr := vsr.nw hlm1
   replace vs := vs.nw hlm1
   replace hm0 := hm0.tr hlm1
   have hz13 := hlm1.size
   refine CW.s1 (fun hK10 => CW.region ?_)
   refine LR.v1 (Y.lss rfl rfl rfl) (LR.nil (hK10 _ _ ?_))
   refine CW.s2 (fun hK11 hE11 => ?_)
   refine CW.condp rfl (fun c59 => ?_) (fun c59 => ?_)
   ·
    refine CW.skip (hK11 _ _ (CW.s1 (fun hK12 => CW.block (fun _ hK13 _ _ => CW.s1 (fun hK14 => CW.region ?_)))))
    have hil : i < x.ml.length := by omega
    obtain ⟨y, hey⟩ : ∃ q, q = x.ml[i] := ⟨_, rfl⟩
    have hmy : y ∈ x.ml := by rw [hey]; exact List.getElem_mem hil
    have hyn := hx.mn y hmy
    refine LR.e1 (g := fun ad => .pointer (some ad)) (Y.iF hm (i) rfl u'24 s'52 rfl rfl) fun ad60 pt60 => ?_
    refine LR.v1 (Y.cast (v2 := .agg (fMv y).toArray) (Y.loadN pt60.pt rfl a'52 s'52 (fMv_len _) rfl) (by rw [hey])) ?_
    refine LR.z1 (Z.allocv rfl z'52) fun v7 H7 r7 => ?_
    obtain ⟨rfl, vm, hs7, ob7, hH7⟩ := r7
    have hzs7 : H7.size = HL1.size + 1 := by rw [hH7]; simp
    have df22 := (DF.new (bf_hd.mono hm0.size) : DF _ (HL1.size + 1))
    have nx28 : Nx 0 Hcutr4.size (HL1.size + 1) := Nx.new hlm1.size
    replace hd := fun y hy0 => (hd y hy0).nw hs7
    replace hlm1 := hlm1.tr hs7
    have hz14 := hs7.size
    refine LR.s1 (S.var vm (_) (fMv y) rfl rfl rfl rfl (fMv_one y) s'52 (fMv_len _) (by decide) ((splice_all2 (fMv_len _).symm))) fun H7_3 r7_3 => ?_
    obtain ⟨vm, hs7_3⟩ := r7_3
    replace hs7_3 := hs7_3.md1
    replace hd := fun y hy0 => (hd y hy0).upL hs7_3 (DFL.o df22)
    replace hlm1 := hlm1.tq hs7_3 (MIL.o (MI.q nx28))
    have hz15 := hs7_3.size
    refine LR.nil (hK14 _ _ ?_)
    refine CW.region_any (fun Hq => Nw H7_3 Hq) [] rfl ?_
    have hqs := Nw.refl H7_3
    refine LH.m1 0 rfl hqs ?_
    refine LH.t1 1 rfl (fun Hq hq => Y.FA (vm.pt.nw hq) rfl u'52 rfl s'9) hqs ?_
    refine LH.t1 2 rfl (fun Hq hq => Y.load1 (vm.pt.nw hq) rfl a'9 rfl) hqs ?_
    refine LH.t1 3 rfl (fun Hq hq => Y.slen rfl u'9 rfl) hqs ?_
    refine LH.o1 4 ?_
    refine LO.call rfl rfl c'183 rfl (Wd.u rfl) rfl rfl (longest1_ct w0 _) (fun v66 H66 r66 => ?_)
    obtain ⟨rfl, hs66⟩ := r66
    replace hd := fun y hy0 => (hd y hy0).nw hs66
    replace vm := vm.nw hs66
    replace hlm1 := hlm1.tr hs66
    have hz16 := hs66.size
    have hq66 := hqs.tr hs66
    refine ⟨.inr hq66, LH.narrow (SH2 := fun Hq => Nw H66 Hq) (fun Hq hq => hq66.tr hq) ?_⟩
    have hqn66 := Nw.refl H66
    refine LH.t1 5 rfl (fun Hq hq => (Y.leq rfl rfl rfl).isT (by omega)) hqn66 ?_
    refine LH.m1 6 rfl hqn66 ?_
    refine LH.u1 7 rfl (fun Hq hq => Y.FA (vm.pt.nw hq) rfl u'52 rfl s'9) (Wd.g rfl rfl rfl) hqn66 ?_
    refine LH.u1 8 rfl (fun Hq hq => Y.load1 (vm.pt.mv65.nw hq) rfl a'9 rfl) (Wd.g rfl rfl rfl) hqn66 ?_
    refine LH.u1 9 rfl (fun Hq hq => Y.slen rfl u'9 rfl) (Wd.g rfl rfl rfl) hqn66 ?_
    refine LH.o1 10 ?_
    refine LO.call rfl rfl c'183 rfl (Wd.g rfl rfl rfl) rfl rfl (longest2_ct w0 _) (fun v72 H72 r72 => ?_)
    obtain ⟨rfl, hs72⟩ := r72
    replace hd := fun y hy0 => (hd y hy0).nw hs72
    replace hlm1 := hlm1.tr hs72
    have hz17 := hs72.size
    have hq72 := hqn66.tr hs72
    refine ⟨.inr hq72, LH.narrow (SH2 := fun Hq => Nw H72 Hq) (fun Hq hq => hq72.tr hq) ?_⟩
    have hqn72 := Nw.refl H72
    refine LH.u1 11 rfl (fun Hq hq => (Y.leq rfl rfl rfl).isT (by omega)) (Wd.g rfl rfl rfl) hqn72 ?_
    refine LH.t1 12 rfl (fun Hq hq => Y.pick_t rfl rfl rfl) hqn72 ?_
    refine LH.o1 13 ?_
    refine LO.call rfl rfl c'93 rfl (Wd.u rfl) rfl rfl (smust_ct _ 5 w0 _) (fun v75 H75 r75 => ?_)
    obtain ⟨rfl, hs75⟩ := r75
    replace hd := fun y hy0 => (hd y hy0).nw hs75
    replace hlm1 := hlm1.tr hs75
    have hz18 := hs75.size
    have hq75 := hqn72.tr hs75
    refine ⟨.inr hq75, LH.narrow (SH2 := fun Hq => Nw H75 Hq) (fun Hq hq => hq75.tr hq) ?_⟩
    have hqn75 := Nw.refl H75
    refine LH.done (by kernel_rfl) ?_
    have hqe := hqn75
    refine hK13 _ _ (hK12 _ _ (CW.region ?_))
    refine LR.v1 (Y.addi rfl rfl rfl (by omega)) ?_
    refine LR.m1 (LR.nil ?_)
    refine QN.sub (hN9 (i + 1) _ ?_ ?_) ⟨rfl, rfl, rfl, rfl, rfl, (iv (by omega)), (iv (by omega)), trivial⟩
    · exact ⟨(by omega), hlm1⟩
    · first | omega | (simp only; omega) | (simp; omega)
   ·
    refine CW.exit (hE11 (.exit 0) nofun _ _ (hE9 (.exit 0) nofun _ _ (hX8 _ _ ?_)))
    refine hK6 _ _ (CW.s1 (fun hK15 => CW.s1 (fun hK16 => CW.region ?_)))
    refine LR.v1 (Y.FA va.pt rfl u'32 rfl s'30) ?_
    refine LR.v1 (Y.load1 va.pt.tx74 rfl a'30 rfl) ?_
    refine LR.v1 (Y.len he rfl u'30 rfl) ?_
    refine LR.m1 (LR.nil (hK16 _ _ ?_))
    refine CW.block (fun _ _ hX17 _ => ?_)
    refine CW.loop (fun (i : (Nat)) => [(1, .pointer (some ⟨H0.size, 0, none⟩)), (3, .pointer (some ⟨H1.size, 0, none⟩)), (4, .pointer (some ⟨H18.size, 0, none⟩)), (5, .bool isB), (78, x.ev.v), (79, .int .i64 (x.el.length : Int)), (80, .int .i64 i)])
     (fun (i : (Nat)) (H : Heap) => (i ≤ x.el.length) ∧ Nw HL1 H)
     (fun (i : (Nat)) => x.el.length - i) 0 ⟨rfl, rfl, rfl, rfl, rfl, rfl, rfl, trivial⟩ ?_ ?_
    ·
     exact ⟨(by omega), Mo.refl _ _⟩
    intro i HL2 hI2 K18 hN18 hE18
    obtain ⟨hi, hlm2⟩ := hI2
    replace hm := hm.nw hlm2
    replace hl := hl.nw hlm2
    replace he := he.nw hlm2
    replace hd := fun y hy0 => (hd y hy0).nw hlm2
    replace va := va.nw hlm2
    replace vsr := vsr.nw hlm2
    replace vs := vs.nw hlm2
    replace hm0 := hm0.tr hlm2
    have hz19 := hlm2.size
    refine CW.s1 (fun hK19 => CW.region ?_)
    refine LR.v1 (Y.lss rfl rfl rfl) (LR.nil (hK19 _ _ ?_))
    refine CW.s2 (fun hK20 hE20 => ?_)
    refine CW.condp rfl (fun c81 => ?_) (fun c81 => ?_)
    ·
     refine CW.skip (hK20 _ _ (CW.s1 (fun hK21 => CW.block (fun _ hK22 _ _ => CW.s1 (fun hK23 => CW.region ?_)))))
     have hil : i < x.el.length := by omega
     obtain ⟨y, hey⟩ : ∃ q, q = x.el[i] := ⟨_, rfl⟩
     have hmy : y ∈ x.el := by rw [hey]; exact List.getElem_mem hil
     have hyd := hx.md y hmy
     refine LR.e1 (g := fun ad => .pointer (some ad)) (Y.iF he (i) rfl u'30 s'68 rfl rfl) fun ad82 pt82 => ?_
     refine LR.v1 (Y.cast (v2 := .agg (fMm y).toArray) (Y.loadN pt82.pt rfl a'68 s'68 (fMm_len _) rfl) (by rw [hey])) ?_
     refine LR.z1 (Z.allocv rfl z'68) fun v9 H9 r9 => ?_
     obtain ⟨rfl, vn, hs9, ob9, hH9⟩ := r9
     have hzs9 : H9.size = HL2.size + 1 := by rw [hH9]; simp
     have df32 := (DF.new (bf_hd.mono hm0.size) : DF _ (HL2.size + 1))
     have nx38 : Nx 0 HL1.size (HL2.size + 1) := Nx.new hlm2.size
     replace hd := fun y hy0 => (hd y hy0).nw hs9
     replace hlm2 := hlm2.tr hs9
     have hz20 := hs9.size
     refine LR.s1 (S.var vn (_) (fMm y) rfl rfl rfl rfl (fMm_one y) s'68 (fMm_len _) (by decide) ((splice_all2 (fMm_len _).symm))) fun H12_3 r12_3 => ?_
     obtain ⟨vn, hs12_3⟩ := r12_3
     replace hs12_3 := hs12_3.md1
     replace hd := fun y hy0 => (hd y hy0).upL hs12_3 (DFL.o df32)
     replace hlm2 := hlm2.tq hs12_3 (MIL.o (MI.q nx38))
     have hz21 := hs12_3.size
     refine LR.nil (hK23 _ _ ?_)
     refine CW.region_any (fun Hq => Nw H12_3 Hq) [] rfl ?_
     have hqs := Nw.refl H12_3
     refine LH.m1 0 rfl hqs ?_
     refine LH.t1 1 rfl (fun Hq hq => Y.FA (vn.pt.nw hq) rfl u'68 rfl s'57) hqs ?_
     refine LH.t1 2 rfl (fun Hq hq => Y.load1 (vn.pt.mm32.nw hq) rfl a'57 rfl) hqs ?_
     refine LH.t1 3 rfl (fun Hq hq => Y.len ((hd y hmy).nw hq) rfl u'57 rfl) hqs ?_
     refine LH.o1 4 ?_
     refine LO.call rfl rfl c'183 rfl (Wd.u rfl) rfl rfl (longest4_ct w0 _) (fun v88 H88 r88 => ?_)
     obtain ⟨rfl, hs88⟩ := r88
     replace hd := fun y hy0 => (hd y hy0).nw hs88
     replace hlm2 := hlm2.tr hs88
     have hz22 := hs88.size
     have hq88 := hqs.tr hs88
     refine ⟨.inr hq88, LH.narrow (SH2 := fun Hq => Nw H88 Hq) (fun Hq hq => hq88.tr hq) ?_⟩
     have hqn88 := Nw.refl H88
     refine LH.t1 5 rfl (fun Hq hq => (Y.leq rfl rfl rfl).isT (by omega)) hqn88 ?_
     refine LH.o1 6 ?_
     refine LO.call rfl rfl c'93 rfl (Wd.u rfl) rfl rfl (smust_ct _ 5 w0 _) (fun v90 H90 r90 => ?_)
     obtain ⟨rfl, hs90⟩ := r90
     replace hd := fun y hy0 => (hd y hy0).nw hs90
     replace hlm2 := hlm2.tr hs90
     have hz23 := hs90.size
     have hq90 := hqn88.tr hs90
     refine ⟨.inr hq90, LH.narrow (SH2 := fun Hq => Nw H90 Hq) (fun Hq hq => hq90.tr hq) ?_⟩
     have hqn90 := Nw.refl H90
     refine LH.done (by kernel_rfl) ?_
     have hqe := hqn90
     refine hK22 _ _ (hK21 _ _ (CW.region ?_))
     refine LR.v1 (Y.addi rfl rfl rfl (by omega)) ?_
     refine LR.m1 (LR.nil ?_)
     refine QN.sub (hN18 (i + 1) _ ?_ ?_) ⟨rfl, rfl, rfl, rfl, rfl, (iv (by omega)), (iv (by omega)), trivial⟩
     · exact ⟨(by omega), hlm2⟩
     · first | omega | (simp only; omega) | (simp; omega)
    ·
     refine CW.exit (hE20 (.exit 2) nofun _ _ (hE18 (.exit 2) nofun _ _ (hX17 _ _ ?_)))
     refine hK15 _ _ ?_
     refine CW.cut (fun (_ : Unit) => [(1, .pointer (some ⟨H0.size, 0, none⟩)), (3, .pointer (some ⟨H1.size, 0, none⟩)), (4, .pointer (some ⟨H18.size, 0, none⟩)), (5, .bool isB)])
      (fun (_ : Unit) (H : Heap) => (True) ∧ Nw HL2 H) (fun _ hK24 _ => ?_) ?_
     ·
      have hcm24 : Nw HL2 HL2 := Mo.refl _ _
      refine CW.region_any (fun Hq => Nw HL2 Hq) [] rfl ?_
      have hqs := Nw.refl HL2
      refine LH.m1 0 rfl hqs ?_
      refine LH.m1 1 rfl hqs ?_
      refine LH.t1 2 rfl (fun Hq hq => Y.not rfl rfl) hqs ?_
      refine LH.m1 3 rfl hqs ?_
      refine LH.split (d := 95) rfl (fun g95 => ?_) (fun g95 => ?_)
      ·
       refine LH.g1 4 rfl rfl rfl rfl hqs ?_
       refine LH.g1 5 rfl rfl rfl rfl hqs ?_
       refine LH.g1 6 rfl rfl rfl rfl hqs ?_
       refine LH.g1 7 rfl rfl rfl rfl hqs ?_
       refine LH.g1 8 rfl rfl rfl rfl hqs ?_
       refine LH.t1 9 rfl (fun Hq hq => Y.pick_t rfl rfl rfl) hqs ?_
       refine LH.o1 10 ?_
       refine LO.call rfl rfl c'93 rfl (Wd.u rfl) rfl rfl (smust_ct _ 5 w0 _) (fun v102 H102 r102 => ?_)
       obtain ⟨rfl, hs102⟩ := r102
       replace hd := fun y hy0 => (hd y hy0).nw hs102
       replace hcm24 := hcm24.tr hs102
       have hz24 := hs102.size
       have hq102 := hqs.tr hs102
       refine ⟨.inr hq102, LH.narrow (SH2 := fun Hq => Nw H102 Hq) (fun Hq hq => hq102.tr hq) ?_⟩
       have hqn102 := Nw.refl H102
       refine LH.done (by kernel_rfl) ?_
       have hqe := hqn102
       refine QN.sub (hK24 () _ ?_) ⟨rfl, rfl, rfl, rfl, trivial⟩
       exact ⟨trivial, hcm24⟩
      ·
       have hq := his (by simpa using g95)
       have hqe := hx.sq hq.1 hq.2
       have q1 := hqe.br
       refine LH.u1 4 rfl (fun Hq hq => Y.FA (vs.pt.nw hq) rfl u'29 rfl s'9) (Wd.g rfl rfl rfl) hqs ?_
       refine LH.u1 5 rfl (fun Hq hq => Y.load1 ((vs.pt.drop 1).nw hq) rfl a'9 rfl) (Wd.g rfl rfl rfl) hqs ?_
       refine LH.u1 6 rfl (fun Hq hq => Y.slen rfl u'9 rfl) (Wd.g rfl rfl rfl) hqs ?_
       refine LH.o1 7 ?_
       refine LO.call rfl rfl c'183 rfl (Wd.g rfl rfl rfl) rfl rfl (longest1_ct w0 _) (fun v99 H99 r99 => ?_)
       obtain ⟨rfl, hs99⟩ := r99
       replace hd := fun y hy0 => (hd y hy0).nw hs99
       replace hcm24 := hcm24.tr hs99
       have hz25 := hs99.size
       have hq99 := hqs.tr hs99
       refine ⟨.inr hq99, LH.narrow (SH2 := fun Hq => Nw H99 Hq) (fun Hq hq => hq99.tr hq) ?_⟩
       have hqn99 := Nw.refl H99
       refine LH.u1 8 rfl (fun Hq hq => (Y.leq rfl rfl rfl).isT (by omega)) (Wd.g rfl rfl rfl) hqn99 ?_
       refine LH.t1 9 rfl (fun Hq hq => Y.pick_f rfl rfl rfl) hqn99 ?_
       refine LH.o1 10 ?_
       refine LO.call rfl rfl c'93 rfl (Wd.u rfl) rfl rfl (smust_ct _ 5 w0 _) (fun v102 H102 r102 => ?_)
       obtain ⟨rfl, hs102⟩ := r102
       replace hd := fun y hy0 => (hd y hy0).nw hs102
       replace hcm24 := hcm24.tr hs102
       have hz26 := hs102.size
       have hq102 := hqn99.tr hs102
       refine ⟨.inr hq102, LH.narrow (SH2 := fun Hq => Nw H102 Hq) (fun Hq hq => hq102.tr hq) ?_⟩
       have hqn102 := Nw.refl H102
       refine LH.done (by kernel_rfl) ?_
       have hqe := hqn102
       refine QN.sub (hK24 () _ ?_) ⟨rfl, rfl, rfl, rfl, trivial⟩
       exact ⟨trivial, hcm24⟩
     ·
      intro _ Hcutr15 hIcutr15
      obtain ⟨htr, hlmcutr15⟩ := hIcutr15
      replace hm := hm.nw hlmcutr15
      replace hl := hl.nw hlmcutr15
      replace hd := fun y hy0 => (hd y hy0).nw hlmcutr15
      replace va := va.nw hlmcutr15
      replace vsr := vsr.nw hlmcutr15
      replace vs := vs.nw hlmcutr15
      replace hm0 := hm0.tr hlmcutr15
      have hz27 := hlmcutr15.size
      refine CW.cut (fun (_ : Unit) => [(3, .pointer (some ⟨H1.size, 0, none⟩)), (4, .pointer (some ⟨H18.size, 0, none⟩)), (5, .bool isB)])
       (fun (_ : Unit) (H : Heap) => (True) ∧ Nw Hcutr15 H) (fun _ hK25 _ => ?_) ?_
      ·
       have hcm25 : Nw Hcutr15 Hcutr15 := Mo.refl _ _
       refine CW.region_any (fun Hq => Nw Hcutr15 Hq) [] rfl ?_
       have hqs := Nw.refl Hcutr15
       refine LH.m1 0 rfl hqs ?_
       refine LH.t1 1 rfl (fun Hq hq => Y.FA (va.pt.nw hq) rfl u'32 rfl s'4) hqs ?_
       refine LH.t1 2 rfl (fun Hq hq => Y.load1 ((va.pt.drop 3).nw hq) rfl a'4 rfl) hqs ?_
       refine LH.t1 3 rfl (fun Hq hq => Y.not rfl rfl) hqs ?_
       refine LH.m1 4 rfl hqs ?_
       refine LH.split (d := 107) rfl (fun g107 => ?_) (fun g107 => ?_)
       ·
        refine LH.g1 5 rfl rfl rfl rfl hqs ?_
        refine LH.g1 6 rfl rfl rfl rfl hqs ?_
        refine LH.g1 7 rfl rfl rfl rfl hqs ?_
        refine LH.g1 8 rfl rfl rfl rfl hqs ?_
        refine LH.gu1 9 rfl rfl rfl rfl hqs ?_
        refine LH.gu1 10 rfl rfl rfl rfl hqs ?_
        refine LH.gu1 11 rfl rfl rfl rfl hqs ?_
        refine LH.gu1 12 rfl rfl rfl rfl hqs ?_
        refine LH.g1 13 rfl rfl rfl rfl hqs ?_
        refine LH.t1 14 rfl (fun Hq hq => Y.pick_t rfl rfl rfl) hqs ?_
        refine LH.o1 15 ?_
        refine LO.call rfl rfl c'93 rfl (Wd.u rfl) rfl rfl (smust_ct _ 1 w0 _) (fun v118 H118 r118 => ?_)
        obtain ⟨rfl, hs118⟩ := r118
        replace hd := fun y hy0 => (hd y hy0).nw hs118
        replace hcm25 := hcm25.tr hs118
        have hz28 := hs118.size
        have hq118 := hqs.tr hs118
        refine ⟨.inr hq118, LH.narrow (SH2 := fun Hq => Nw H118 Hq) (fun Hq hq => hq118.tr hq) ?_⟩
        have hqn118 := Nw.refl H118
        refine LH.done (by kernel_rfl) ?_
        have hqe := hqn118
        refine QN.sub (hK25 () _ ?_) ⟨rfl, rfl, rfl, trivial⟩
        exact ⟨trivial, hcm25⟩
       ·
        have hk0 := hx.k0 (by simpa using g107)
        refine LH.u1 5 rfl (fun Hq hq => Y.FA (vs.pt.nw hq) rfl u'29 rfl s'3) (Wd.g rfl rfl rfl) hqs ?_
        refine LH.u1 6 rfl (fun Hq hq => Y.load1 (vs.pt.nw hq) rfl a'3 rfl) (Wd.g rfl rfl rfl) hqs ?_
        refine LH.u1 7 rfl (fun Hq hq => (Y.geq rfl rfl rfl).isT (by omega)) (Wd.g rfl rfl rfl) hqs ?_
        refine LH.u1 8 rfl (fun Hq hq => Y.move rfl rfl) (Wd.g rfl rfl rfl) hqs ?_
        refine LH.u1 9 rfl (fun Hq hq => Y.FA (vs.pt.nw hq) rfl u'29 rfl s'3) (Wd.g rfl rfl rfl) hqs ?_
        refine LH.u1 10 rfl (fun Hq hq => Y.load1 (vs.pt.nw hq) rfl a'3 rfl) (Wd.g rfl rfl rfl) hqs ?_
        refine LH.o1 11 ?_
        refine LO.call rfl rfl c'183 rfl (Wd.g rfl rfl rfl) rfl rfl (longest1_ct w0 _) (fun v114 H114 r114 => ?_)
        obtain ⟨rfl, hs114⟩ := r114
        replace hd := fun y hy0 => (hd y hy0).nw hs114
        replace hcm25 := hcm25.tr hs114
        have hz29 := hs114.size
        have hq114 := hqs.tr hs114
        refine ⟨.inr hq114, LH.narrow (SH2 := fun Hq => Nw H114 Hq) (fun Hq hq => hq114.tr hq) ?_⟩
        have hqn114 := Nw.refl H114
        refine LH.u1 12 rfl (fun Hq hq => (Y.leq rfl rfl rfl).isT (by omega)) (Wd.g rfl rfl rfl) hqn114 ?_
        refine LH.u1 13 rfl (fun Hq hq => Y.pick_t rfl rfl rfl) (Wd.g rfl rfl rfl) hqn114 ?_
        refine LH.t1 14 rfl (fun Hq hq => Y.pick_f rfl rfl rfl) hqn114 ?_
        refine LH.o1 15 ?_
        refine LO.call rfl rfl c'93 rfl (Wd.u rfl) rfl rfl (smust_ct _ 1 w0 _) (fun v118 H118 r118 => ?_)
        obtain ⟨rfl, hs118⟩ := r118
        replace hd := fun y hy0 => (hd y hy0).nw hs118
        replace hcm25 := hcm25.tr hs118
        have hz30 := hs118.size
        have hq118 := hqn114.tr hs118
        refine ⟨.inr hq118, LH.narrow (SH2 := fun Hq => Nw H118 Hq) (fun Hq hq => hq118.tr hq) ?_⟩
        have hqn118 := Nw.refl H118
        refine LH.done (by kernel_rfl) ?_
        have hqe := hqn118
        refine QN.sub (hK25 () _ ?_) ⟨rfl, rfl, rfl, trivial⟩
        exact ⟨trivial, hcm25⟩
      ·
       intro _ Hcutr16 hIcutr16
       obtain ⟨htr, hlmcutr16⟩ := hIcutr16
       replace hm := hm.nw hlmcutr16
       replace hl := hl.nw hlmcutr16
       replace hd := fun y hy0 => (hd y hy0).nw hlmcutr16
       replace vsr := vsr.nw hlmcutr16
       replace vs := vs.nw hlmcutr16
       replace hm0 := hm0.tr hlmcutr16
       have hz31 := hlmcutr16.size
       refine CW.s1 (fun hK26 => CW.s1 (fun hK27 => CW.region ?_))
       refine LR.m1 (LR.nil (hK27 _ _ ?_))
       refine CW.cond rfl (fun c119 => ?_) (fun c119 => ?_)
       ·
        have hq := his c119
        have hqe := hx.sq hq.1 hq.2
        have q3 := hqe.td
        have q4 := hqe.dn
        have q5 := hqe.md
        refine CW.s1 (fun hK28 => CW.s1 (fun hK29 => CW.region ?_))
        refine LR.v1 (Y.FA vs.pt rfl u'29 rfl s'3) ?_
        refine LR.v1 (Y.load1 vs.pt.sq67 rfl a'3 rfl) ?_
        refine LR.v1 (Y.FA vs.pt rfl u'29 rfl s'3) ?_
        refine LR.v1 (Y.load1 vs.pt.sq68 rfl a'3 rfl) ?_
        refine LR.z1 (Z.litw _ ([x.q.dn, x.q.md]) rfl inf83 rfl rfl rfl (by decide) (by decide) fI_len fI_one (rfl)) fun v124 H124 r124 => ?_
        obtain ⟨ow, hs124, ob124, hH124⟩ := r124
        have hzs124 : H124.size = Hcutr16.size + 1 := by rw [hH124]; simp
        replace hm := hm.nw hs124
        replace hl := hl.nw hs124
        replace hd := fun y hy0 => (hd y hy0).nw hs124
        replace vsr := vsr.nw hs124
        replace vs := vs.nw hs124
        replace hm0 := hm0.tr hs124
        have hz32 := hs124.size
        refine LR.v1 (Y.len ow.rd rfl u'83 rfl) ?_
        refine LR.m1 (LR.nil (hK29 _ _ ?_))
        refine CW.block (fun _ _ hX30 _ => ?_)
        refine CW.loop (fun (i : (Nat)) => [(3, .pointer (some ⟨H1.size, 0, none⟩)), (4, .pointer (some ⟨H18.size, 0, none⟩)), (124, v124), (125, .int .i64 2), (126, .int .i64 i)])
         (fun (i : (Nat)) (H : Heap) => (i ≤ 2) ∧ Nw H124 H)
         (fun (i : (Nat)) => 2 - i) 0 ⟨rfl, rfl, rfl, rfl, rfl, trivial⟩ ?_ ?_
        ·
         exact ⟨(by omega), Mo.refl _ _⟩
        intro i HL3 hI3 K31 hN31 hE31
        obtain ⟨hi, hlm3⟩ := hI3
        replace hm := hm.nw hlm3
        replace hl := hl.nw hlm3
        replace hd := fun y hy0 => (hd y hy0).nw hlm3
        replace vsr := vsr.nw hlm3
        replace vs := vs.nw hlm3
        replace ow := ow.nw hlm3
        replace hm0 := hm0.tr hlm3
        have hz33 := hlm3.size
        refine CW.s1 (fun hK32 => CW.region ?_)
        refine LR.v1 (Y.lss rfl rfl rfl) (LR.nil (hK32 _ _ ?_))
        refine CW.s2 (fun hK33 hE33 => ?_)
        refine CW.condp rfl (fun c127 => ?_) (fun c127 => ?_)
        ·
         refine CW.skip (hK33 _ _ (CW.s1 (fun hK34 => CW.block (fun _ hK35 _ _ => CW.s1 (fun hK36 => CW.region ?_)))))
         have hil : i < [x.q.dn, x.q.md].length := by simp; omega
         have hq : 0 ≤ [x.q.dn, x.q.md][i] ∧ [x.q.dn, x.q.md][i] ≤ 65535 := by
          have hm := List.getElem_mem hil
          rcases List.mem_cons.1 hm with h | h
          · rw [h]; omega
          · rw [List.mem_singleton.1 h]; omega
         refine LR.v1 (Y.owAddr ow (i) rfl u'83 s'3 rfl rfl (by first | rfl | omega) (by first | omega | (simp; omega) | (simp; done))) ?_
         refine LR.v1 (Y.load1 (ow.pt (j := i) (by first | omega | (simp; omega) | (simp; done))) rfl a'3 rfl) ?_
         refine LR.a1 (LR.nil (hK36 _ _ ?_))
         refine CW.region ?_
         refine LR.m1 ?_
         refine LR.m1 ?_
         refine LR.v1 ((Y.geq rfl rfl rfl).isT (by omega)) ?_
         refine LR.m1 ?_
         refine LR.w1 (Y.move rfl rfl) ?_
         refine LR.call rfl c'183 rfl (Wd.g rfl rfl rfl) rfl rfl (longest2_ct w0 _) (fun v135 H135 r135 => ?_)
         obtain ⟨rfl, hs135⟩ := r135
         replace hd := fun y hy0 => (hd y hy0).nw hs135
         replace hlm3 := hlm3.tr hs135
         have hz34 := hs135.size
         refine LR.w1 ((Y.leq rfl rfl rfl).isT (by omega)) ?_
         refine LR.v1 (Y.pick_t rfl rfl rfl) ?_
         refine LR.call rfl c'93 rfl (Wd.u rfl) rfl rfl (smust_ct _ 1 w0 _) (fun v138 H138 r138 => ?_)
         obtain ⟨rfl, hs138⟩ := r138
         replace hd := fun y hy0 => (hd y hy0).nw hs138
         replace hlm3 := hlm3.tr hs138
         have hz35 := hs138.size
         refine LR.nil (hK35 _ _ (hK34 _ _ (CW.region ?_)))
         refine LR.v1 (Y.addi rfl rfl rfl (by omega)) ?_
         refine LR.m1 (LR.nil ?_)
         refine QN.sub (hN31 (i + 1) _ ?_ ?_) ⟨rfl, rfl, rfl, (iv (by omega)), (iv (by omega)), trivial⟩
         · exact ⟨(by omega), hlm3⟩
         · first | omega | (simp only; omega) | (simp; omega)
        ·
         refine CW.exit (hE33 (.exit 4) nofun _ _ (hE31 (.exit 4) nofun _ _ (hX30 _ _ ?_)))
         refine hK28 _ _ (CW.s1 (fun hK37 => CW.region ?_))
         refine LR.v1 (Y.FA vs.pt rfl u'29 rfl s'27) ?_
         refine LR.v1 (Y.load1 vs.pt.sq66 rfl a'27 rfl) ?_
         refine LR.v1 (Y.len hl rfl u'27 rfl) ?_
         refine LR.m1 (LR.nil (hK37 _ _ ?_))
         refine CW.block (fun _ _ hX38 _ => ?_)
         refine CW.loop (fun (i : (Nat)) => [(3, .pointer (some ⟨H1.size, 0, none⟩)), (141, x.q.tv.v), (142, .int .i64 (x.q.td.length : Int)), (143, .int .i64 i)])
          (fun (i : (Nat)) (H : Heap) => (i ≤ x.q.td.length) ∧ Nw HL3 H)
          (fun (i : (Nat)) => x.q.td.length - i) 0 ⟨rfl, rfl, rfl, rfl, trivial⟩ ?_ ?_
         ·
          exact ⟨(by omega), Mo.refl _ _⟩
         intro i HL4 hI4 K39 hN39 hE39
         obtain ⟨hi, hlm4⟩ := hI4
         replace hl := hl.nw hlm4
         replace hd := fun y hy0 => (hd y hy0).nw hlm4
         replace vsr := vsr.nw hlm4
         replace hm0 := hm0.tr hlm4
         have hz36 := hlm4.size
         refine CW.s1 (fun hK40 => CW.region ?_)
         refine LR.v1 (Y.lss rfl rfl rfl) (LR.nil (hK40 _ _ ?_))
         refine CW.s2 (fun hK41 hE41 => ?_)
         refine CW.condp rfl (fun c144 => ?_) (fun c144 => ?_)
         ·
          refine CW.skip (hK41 _ _ (CW.s1 (fun hK42 => CW.block (fun _ hK43 _ _ => CW.s1 (fun hK44 => CW.region ?_)))))
          have hil : i < x.q.td.length := by omega
          obtain ⟨y, hey⟩ : ∃ q, q = x.q.td[i] := ⟨_, rfl⟩
          have hmy : y ∈ x.q.td := by rw [hey]; exact List.getElem_mem hil
          have hyd := hqe.dd y hmy
          refine LR.e1 (g := fun ad => .pointer (some ad)) (Y.iF hl (i) rfl u'27 s'129 rfl rfl) fun ad145 pt145 => ?_
          refine LR.v1 (Y.cast (v2 := .agg (fTd y).toArray) (Y.loadN pt145.pt rfl a'129 s'129 (fTd_len _) rfl) (by rw [hey])) ?_
          refine LR.z1 (Z.allocv rfl z'129) fun v13 H13 r13 => ?_
          obtain ⟨rfl, vt, hs13, ob13, hH13⟩ := r13
          have hzs13 : H13.size = HL4.size + 1 := by rw [hH13]; simp
          have df49 := (DF.new (bf_hd.mono hm0.size) : DF _ (HL4.size + 1))
          have nx53 : Nx 0 HL3.size (HL4.size + 1) := Nx.new hlm4.size
          replace hd := fun y hy0 => (hd y hy0).nw hs13
          replace hlm4 := hlm4.tr hs13
          have hz37 := hs13.size
          refine LR.s1 (S.var vt (_) (fTd y) rfl rfl rfl rfl (fTd_one y) s'129 (fTd_len _) (by decide) ((splice_all2 (fTd_len _).symm))) fun H25_3 r25_3 => ?_
          obtain ⟨vt, hs25_3⟩ := r25_3
          replace hs25_3 := hs25_3.md1
          replace hd := fun y hy0 => (hd y hy0).upL hs25_3 (DFL.o df49)
          replace hlm4 := hlm4.tq hs25_3 (MIL.o (MI.q nx53))
          have hz38 := hs25_3.size
          refine LR.nil (hK44 _ _ ?_)
          refine CW.region_any (fun Hq => Nw H25_3 Hq) [] rfl ?_
          have hqs := Nw.refl H25_3
          refine LH.m1 0 rfl hqs ?_
          refine LH.t1 1 rfl (fun Hq hq => Y.FA (vt.pt.nw hq) rfl u'129 rfl s'3) hqs ?_
          refine LH.t1 2 rfl (fun Hq hq => Y.load1 (vt.pt.nw hq) rfl a'3 rfl) hqs ?_
          refine LH.t1 3 rfl (fun Hq hq => (Y.geq rfl rfl rfl).isT (by omega)) hqs ?_
          refine LH.m1 4 rfl hqs ?_
          refine LH.u1 5 rfl (fun Hq hq => Y.FA (vt.pt.nw hq) rfl u'129 rfl s'3) (Wd.g rfl rfl rfl) hqs ?_
          refine LH.u1 6 rfl (fun Hq hq => Y.load1 (vt.pt.nw hq) rfl a'3 rfl) (Wd.g rfl rfl rfl) hqs ?_
          refine LH.o1 7 ?_
          refine LO.call rfl rfl c'183 rfl (Wd.g rfl rfl rfl) rfl rfl (longest1_ct w0 _) (fun v154 H154 r154 => ?_)
          obtain ⟨rfl, hs154⟩ := r154
          replace hd := fun y hy0 => (hd y hy0).nw hs154
          replace hlm4 := hlm4.tr hs154
          have hz39 := hs154.size
          have hq154 := hqs.tr hs154
          refine ⟨.inr hq154, LH.narrow (SH2 := fun Hq => Nw H154 Hq) (fun Hq hq => hq154.tr hq) ?_⟩
          have hqn154 := Nw.refl H154
          refine LH.u1 8 rfl (fun Hq hq => (Y.leq rfl rfl rfl).isT (by omega)) (Wd.g rfl rfl rfl) hqn154 ?_
          refine LH.t1 9 rfl (fun Hq hq => Y.pick_t rfl rfl rfl) hqn154 ?_
          refine LH.o1 10 ?_
          refine LO.call rfl rfl c'93 rfl (Wd.u rfl) rfl rfl (smust_ct _ 1 w0 _) (fun v157 H157 r157 => ?_)
          obtain ⟨rfl, hs157⟩ := r157
          replace hd := fun y hy0 => (hd y hy0).nw hs157
          replace hlm4 := hlm4.tr hs157
          have hz40 := hs157.size
          have hq157 := hqn154.tr hs157
          refine ⟨.inr hq157, LH.narrow (SH2 := fun Hq => Nw H157 Hq) (fun Hq hq => hq157.tr hq) ?_⟩
          have hqn157 := Nw.refl H157
          refine LH.done (by kernel_rfl) ?_
          have hqe := hqn157
          refine hK43 _ _ (hK42 _ _ (CW.region ?_))
          refine LR.v1 (Y.addi rfl rfl rfl (by omega)) ?_
          refine LR.m1 (LR.nil ?_)
          refine QN.sub (hN39 (i + 1) _ ?_ ?_) ⟨rfl, rfl, (iv (by omega)), (iv (by omega)), trivial⟩
          · exact ⟨(by omega), hlm4⟩
          · first | omega | (simp only; omega) | (simp; omega)
         ·
          refine CW.exit (hE41 (.exit 6) nofun _ _ (hE39 (.exit 6) nofun _ _ (hX38 _ _ ?_)))
          refine hK26 _ _ (CW.s1 (fun hK45 => CW.region ?_))
          refine LR.m1 ?_
          refine LR.v1 (Y.nilCheck rfl rfl) ?_
          refine LR.v1 (Y.FA vsr.pt rfl u'213 rfl s'35) ?_
          refine LR.v1 (Y.load1 (vsr.pt.drop 2) rfl a'35 rfl) ?_
          refine LR.a1 (LR.nil (hK45 _ _ ?_))
          refine CW.ret (hret .ret (.inr rfl) _ _ _ (res1 rfl rfl) ?_)
          exact ⟨rfl, hm0⟩
       ·
        refine CW.skip (hK26 _ _ (CW.s1 (fun hK46 => CW.region ?_)))
        refine LR.m1 ?_
        refine LR.v1 (Y.nilCheck rfl rfl) ?_
        refine LR.v1 (Y.FA vsr.pt rfl u'213 rfl s'35) ?_
        refine LR.v1 (Y.load1 (vsr.pt.drop 2) rfl a'35 rfl) ?_
        refine LR.a1 (LR.nil (hK46 _ _ ?_))
        refine CW.ret (hret .ret (.inr rfl) _ _ _ (res1 rfl rfl) ?_)
        exact ⟨rfl, hm0⟩
set_option maxHeartbeats 4000000 in
theorem enc_ct (x : TTx) (F : Nat → Prop) (w0 : World) (H0 : Heap)
 (ht : TxR F H0 x) (bf_ht : BF F H0.size) (hx : EncX x) :
 Ct Tryz.prog w0 37 #[txV x] H0 (fun r H2 => ∃ s2 : SV, ∃ k2 : Nat, r = .tuple #[s2.v, .int .i64 0] ∧ (Ow k2 5 H2 fB 1 s2.v (encT x)) ∧ (Nx 0 H0.size k2) ∧ Nw H0 H2) := by
 refine Ct.enter (args := [txV x]) Tryz.func37 rfl rfl rfl ?_
 intro Q0 hret
 have hm0 : Nw H0 H0 := Mo.refl _ _
 have hml := ht.m.len
 have hel := ht.e.len
 have e1 := hx.ml
 have e2 := hx.el
 have hpl := preT_len hx
 refine CW.s1 (fun hK1 => CW.region ?_)
 refine LR.z1 (Z.boxv rfl rfl) fun v1 H1 r1 => ?_
 obtain ⟨rfl, va, hs1, ob1, hH1⟩ := r1
 have hzs1 : H1.size = H0.size + 1 := by rw [hH1]; simp
 replace ht := ht.nw hs1
 replace hm0 := hm0.tr hs1
 have hz1 := hs1.size
 replace va : Var 32 H1 H0.size (fTx x) := va
 refine LR.a1 ?_
 refine LR.a1 (LR.nil (hK1 _ _ ?_))
 refine CW.s1 (fun hK2 => CW.s1 (fun hK3 => CW.region ?_))
 refine LR.v1 (Y.loadN va.pt rfl a'32 s'32 (fTx_len _) rfl) ?_
 refine LR.call rfl c'98 rfl (Wd.u rfl) rfl rfl (wrong_ct x w0 _ ht.m.any ht.q.any ht.e.any (fun y hy => (ht.d y hy).any) hx) (fun v11 H11 r11 => ?_)
 obtain ⟨rfl, hs11⟩ := r11
 replace ht := ht.nw hs11
 replace va := va.nw hs11
 replace hm0 := hm0.tr hs11
 have hz2 := hs11.size
 refine LR.a1 (LR.nil (hK3 _ _ ?_))
 refine CW.s1 (fun hK4 => CW.region ?_)
 refine LR.m1 ?_
 refine LR.v1 ((Y.neq rfl rfl rfl).isF (by simp)) (LR.nil (hK4 _ _ ?_))
 refine CW.cond_f rfl ?_
 refine CW.skip (hK2 _ _ (CW.s1 (fun hK5 => CW.region ?_)))
 refine LR.v1 (Y.build (v := .agg #[(.slice none 0 0), .int .i64 0, .int .i64 0]) rfl rfl (by intro w; kernel_rfl)) ?_
 refine LR.z1 (Z.boxv rfl rfl) fun v16 H16 r16 => ?_
 obtain ⟨rfl, vw, hs16, ob16, hH16⟩ := r16
 have hzs16 : H16.size = H11.size + 1 := by rw [hH16]; simp
 have df3 := (DF.new (bf_ht.mono hm0.size) : DF _ (H11.size + 1))
 have dj4 : Dj (H0.size + 1) (H11.size + 1) := Dj.new va.lt
 have nx5 : Nx 0 H0.size (H11.size + 1) := Nx.new hm0.size
 replace ht := ht.nw hs16
 replace va := va.nw hs16
 replace hm0 := hm0.tr hs16
 have hz3 := hs16.size
 replace vw : Var 223 H16 H11.size ([(⟨none, 0, 0⟩ : SV).v, .int .i64 0, .int .i64 0]) := vw
 refine LR.a1 (LR.nil (hK5 _ _ ?_))
 refine CW.s1 (fun hK6 => ?_)
 refine CW.region_any (fun Hq => Mo (Ms [(H11.size + 1)]) H16 Hq) [] rfl ?_
 have hq5 : Mo (Ms [(H11.size + 1)]) H16 H16 := Mo.refl _ _
 have nx6 := Nx.refl (H11.size + 1) H16.size
 refine LH.m1 0 rfl hq5 ?_
 refine LH.t1 1 rfl (fun Hq hq => Y.fieldAddr (va.upL hq (DL.o dj4)).pt rfl u'32 rfl rfl s'4 (by decide) rfl) hq5 ?_
 refine LH.t1 2 rfl (fun Hq hq => Y.load1 (va.upL hq (DL.o dj4)).pt rfl a'4 rfl) hq5 ?_
 refine LH.t1 4 rfl (fun Hq hq => Y.fieldAddr (va.upL hq (DL.o dj4)).pt rfl u'32 rfl rfl s'4 (by decide) rfl) hq5 ?_
 refine LH.t1 5 rfl (fun Hq hq => Y.load1 ((va.upL hq (DL.o dj4)).pt.drop 3) rfl a'4 rfl) hq5 ?_
 refine LH.o1 3 ?_
 refine LO.call rfl rfl c'100 rfl (Wd.u rfl) rfl rfl (truth_ct x.hh 1 w0 _) (fun v20 H20 r20 => ?_)
 obtain ⟨rfl, hs20⟩ := r20
 replace ht := ht.nw hs20
 replace va := va.nw hs20
 replace vw := vw.nw hs20
 replace hm0 := hm0.tr hs20
 replace hq5 := hq5.trN hs20
 have hz4 := hs20.size
 refine ⟨.inr hq5, LH.narrow (SH2 := fun Hq => Mo (Ms [(H11.size + 1)]) H20 Hq) (fun Hq hq => hq5.trL hq (MIL.o (MI.r nx6))) ?_⟩
 have hq5 : Mo (Ms [(H11.size + 1)]) H20 H20 := Mo.refl _ _
 have nx7 := Nx.refl (H11.size + 1) H20.size
 refine LH.o1 6 ?_
 refine LO.call rfl rfl c'100 rfl (Wd.u rfl) rfl rfl (truth_ct x.hs 2 w0 _) (fun v23 H23 r23 => ?_)
 obtain ⟨rfl, hs23⟩ := r23
 replace ht := ht.nw hs23
 replace va := va.nw hs23
 replace vw := vw.nw hs23
 replace hm0 := hm0.tr hs23
 replace hq5 := hq5.trN hs23
 have hz5 := hs23.size
 refine ⟨.inr hq5, LH.narrow (SH2 := fun Hq => Mo (Ms [(H11.size + 1)]) H23 Hq) (fun Hq hq => hq5.trL hq (MIL.o (MI.r nx7))) ?_⟩
 have hq5 : Mo (Ms [(H11.size + 1)]) H23 H23 := Mo.refl _ _
 have nx8 := Nx.refl (H11.size + 1) H23.size
 refine LH.t1 7 rfl (fun Hq hq => Y.or_u64 rfl rfl rfl) hq5 ?_
 refine LH.o1 8 ?_
 refine LO.call rfl rfl c'99 rfl (Wd.u rfl) rfl rfl (wnum_ct _ _ _ [] 1 _ w0 _ vw (Ow.nil fB_len fB_one) Dj.z (by decide) (by simp)) (fun v25 H25 r25 => ?_)
 have ql9 := va.lt
 obtain ⟨s25, k25, rfl, vw, ow, hk25, hd25, hs25⟩ := r25
 have df11 := DF.app (DF.z) (bf_ht.mono hm0.size) hk25
 have dj12 : Dj (H0.size + 1) k25 := Dj.app (Dj.z) ql9 hk25
 have nx14 : Nx 0 H0.size k25 := Nx.tr (Nx.refl 0 _) hk25 hm0.size
 have nx15 : Nx 0 H23.size k25 := Nx.tr (Nx.refl 0 _) hk25 hq5.size
 replace ht := ht.upL hs25 (DFL.cons df3 (DFL.o DF.z))
 replace va := va.upL hs25 (DL.cons dj4 (DL.o Dj.z))
 replace hm0 := hm0.tq hs25 (MIL.cons (MI.q nx5) (MIL.cons MI.z MIL.nil))
 replace hq5 := hq5.trL hs25 (MIL.cons (MI.r nx8) (MIL.cons MI.z MIL.nil))
 have hz6 := hs25.size
 have hle_ow := ow.le
 refine ⟨.inr hq5, LH.narrow (SH2 := fun Hq => Mo (Ms [(H11.size + 1), k25]) H25 Hq) (fun Hq hq => hq5.trL hq (MIL.cons (MI.r nx8) (MIL.o (MI.q nx15)))) ?_⟩
 refine LH.done (by kernel_rfl) ?_
 refine hK6 _ _ ?_
 refine CW.cut (fun (s_ : (SV) × (Nat)) => match s_ with | (s1, k1) => [(1, .pointer (some ⟨H0.size, 0, none⟩)), (5, .pointer (some ⟨H11.size, 0, none⟩))])
  (fun (s_ : (SV) × (Nat)) (H : Heap) => match s_ with | (s1, k1) => (Var 223 H H11.size [s1.v, .int .i64 0, .int .i64 0]) ∧ (Ow k1 5 H fB 1 s1.v (preT x)) ∧ (Nx k25 H25.size k1) ∧ (Dj (H11.size + 1) k1) ∧ Mo (Ms [(H11.size + 1), k25]) H25 H) (fun _ hK7 _ => ?_) ?_
 ·
  have hcm7 : Mo (Ms [(H11.size + 1), k25]) H25 H25 := Mo.refl _ _
  have nx_hcm7_vw := Nx.refl (H11.size + 1) H25.size
  have nx_hcm7_ow := Nx.refl k25 H25.size
  refine CW.s1 (fun hK8 => CW.region ?_)
  refine LR.v1 (Y.FA va.pt rfl u'32 rfl s'4) ?_
  refine LR.v1 (Y.load1 va.pt rfl a'4 rfl) (LR.nil (hK8 _ _ ?_))
  refine CW.cond rfl (fun c27 => ?_) (fun c27 => ?_)
  ·
   refine CW.region ?_
   refine LR.m1 ?_
   refine LR.v1 (Y.FA va.pt rfl u'32 rfl s'9) ?_
   refine LR.v1 (Y.load1 (va.pt.drop 1) rfl a'9 rfl) ?_
   refine LR.call rfl c'101 rfl (Wd.u rfl) rfl rfl (wtext_ct _ _ _ _ 1 x.hd w0 _ vw ow (hd25) (by simp [numL_len]) (by decide) (by have := hx.hd c27; omega)) (fun v31 H31 r31 => ?_)
   obtain ⟨s31, k31, rfl, vw, ow, hk31, hd31, hs31⟩ := r31
   have nx25 : Nx k25 H25.size k31 := Nx.tr (nx_hcm7_ow) hk31 hcm7.size
   replace hcm7 := hcm7.trL hs31 (MIL.cons (MI.r nx_hcm7_vw) (MIL.o (MI.r nx_hcm7_ow)))
   have hz7 := hs31.size
   have hle_ow := ow.le
   refine LR.nil ?_
   refine QN.sub (hK7 (s31, k31) _ ?_) ⟨rfl, rfl, trivial⟩
   exact ⟨vw, (by rw [preT, if_pos c27]; exact ow), nx25, hd31, hcm7⟩
  ·
   refine CW.skip ?_
   refine QN.sub (hK7 (s25, k25) _ ?_) ⟨rfl, rfl, trivial⟩
   exact ⟨vw, (by rw [preT, if_neg (by simp [c27]), List.append_nil]; exact ow), nx_hcm7_ow, hd25, hcm7⟩
 ·
  rintro ⟨s1, k1⟩ Hcutc27 hIcutc27
  obtain ⟨vw, ow, nxl_ow, dj_vw_ow, hlmcutc27⟩ := hIcutc27
  have df26 := DF.app (df11) (bf_ht.mono hm0.size) nxl_ow
  have dj27 : Dj (H0.size + 1) k1 := Dj.app (dj12) va.lt nxl_ow
  have nx28 : Nx 0 H0.size k1 := Nx.tr (nx14) nxl_ow hm0.size
  replace ht := ht.upL hlmcutc27 (DFL.cons df3 (DFL.o df11))
  replace va := va.upL hlmcutc27 (DL.cons dj4 (DL.o dj12))
  replace hm0 := hm0.tq hlmcutc27 (MIL.cons (MI.q nx5) (MIL.o (MI.q nx14)))
  have hz8 := hlmcutc27.size
  have hle_ow := ow.le
  have dj29 := dj_vw_ow
  refine CW.s1 (fun hK9 => CW.region ?_)
  refine LR.m1 ?_
  refine LR.v1 (Y.FA va.pt rfl u'32 rfl s'24) ?_
  refine LR.v1 (Y.load1 (va.pt.drop 2) rfl a'24 rfl) ?_
  refine LR.v1 (Y.len ht.m rfl u'24 rfl) ?_
  refine LR.v1 (Y.conv_u64 rfl u'3 u'216 rfl) ?_
  refine LR.call rfl c'99 rfl (Wd.u rfl) rfl rfl (wnum_ct _ _ _ _ 2 _ w0 _ vw ow (dj29) (by decide) (by omega)) (fun v37 H37 r37 => ?_)
  have ql31 := va.lt
  obtain ⟨s37, k37, rfl, vw, ow, hk37, hd37, hs37⟩ := r37
  have df34 := DF.app (df26) (bf_ht.mono hm0.size) hk37
  have dj35 : Dj (H0.size + 1) k37 := Dj.app (dj27) ql31 hk37
  have nx37 : Nx 0 H0.size k37 := Nx.tr (nx28) hk37 hm0.size
  replace ht := ht.upL hs37 (DFL.cons df3 (DFL.o df26))
  replace va := va.upL hs37 (DL.cons dj4 (DL.o dj27))
  replace hm0 := hm0.tq hs37 (MIL.cons (MI.q nx5) (MIL.o (MI.q nx28)))
  have hz9 := hs37.size
  have hle_ow := ow.le
  refine LR.nil (hK9 _ _ (CW.s1 (fun hK10 => CW.s1 (fun hK11 => CW.region ?_))))
  refine LR.v1 (Y.FA va.pt rfl u'32 rfl s'24) ?_
  refine LR.v1 (Y.load1 (va.pt.drop 2) rfl a'24 rfl) ?_
  refine LR.v1 (Y.len ht.m rfl u'24 rfl) ?_
  refine LR.m1 (LR.nil (hK11 _ _ ?_))
  refine CW.block (fun _ _ hX12 _ => ?_)
  refine CW.loop (fun (s_ : (Nat) × (SV) × (Nat)) => match s_ with | (i, s4, k4) => [(1, .pointer (some ⟨H0.size, 0, none⟩)), (5, .pointer (some ⟨H11.size, 0, none⟩)), (39, x.mv.v), (40, .int .i64 (x.ml.length : Int)), (41, .int .i64 i)])
   (fun (s_ : (Nat) × (SV) × (Nat)) (H : Heap) => match s_ with | (i, s4, k4) => (i ≤ x.ml.length) ∧ (Var 223 H H11.size [s4.v, .int .i64 0, .int .i64 0]) ∧ (Ow k4 5 H fB 1 s4.v ((preT x ++ numL 2 (UInt64.ofNat x.ml.length) ++ (x.ml.take i).flatMap mvT))) ∧ (Nx k37 H37.size k4) ∧ (Dj (H11.size + 1) k4) ∧ Mo (Ms [(H11.size + 1), k37]) H37 H)
   (fun (s_ : (Nat) × (SV) × (Nat)) => match s_ with | (i, s4, k4) => x.ml.length - i) (0, s37, k37) ⟨rfl, rfl, rfl, rfl, rfl, trivial⟩ ?_ ?_
  ·
   exact ⟨(by omega), vw, (by simpa using ow), Nx.refl _ _, hd37, Mo.refl _ _⟩
  rintro ⟨i, s4, k4⟩ HL1 hI1 K13 hN13 hE13
  obtain ⟨hi, vw, ow, nxl_ow, dj_vw_ow, hlm1⟩ := hI1
  have df38 := DF.app (df34) (bf_ht.mono hm0.size) nxl_ow
  have dj39 : Dj (H0.size + 1) k4 := Dj.app (dj35) va.lt nxl_ow
  have nx40 : Nx 0 H0.size k4 := Nx.tr (nx37) nxl_ow hm0.size
  replace ht := ht.upL hlm1 (DFL.cons df3 (DFL.o df34))
  replace va := va.upL hlm1 (DL.cons dj4 (DL.o dj35))
  replace hm0 := hm0.tq hlm1 (MIL.cons (MI.q nx5) (MIL.o (MI.q nx37)))
  have hz10 := hlm1.size
  have hle_ow := ow.le
  have dj41 := dj_vw_ow
  have nx_hlm1_vw := Nx.refl (H11.size + 1) H37.size
  have nx42 := nxl_ow
  have hil0 := mls_len hx i
  have hyl : (preT x ++ numL 2 (UInt64.ofNat x.ml.length) ++ (x.ml.take i).flatMap mvT).length ≤ 4400000000 := by simp only [List.length_append, numL_len]; omega
  refine CW.s1 (fun hK14 => CW.region ?_)
  refine LR.v1 (Y.lss rfl rfl rfl) (LR.nil (hK14 _ _ ?_))
  refine CW.s2 (fun hK15 hE15 => ?_)
  refine CW.condp rfl (fun c42 => ?_) (fun c42 => ?_)
  ·
   refine CW.skip (hK15 _ _ (CW.s1 (fun hK16 => CW.block (fun _ hK17 _ _ => CW.s1 (fun hK18 => CW.region ?_)))))
   have hil : i < x.ml.length := by omega
   obtain ⟨y, hey⟩ : ∃ q, q = x.ml[i] := ⟨_, rfl⟩
   have hmy : y ∈ x.ml := by rw [hey]; exact List.getElem_mem hil
   have hyn := hx.mn y hmy
   refine LR.e1 (g := fun ad => .pointer (some ad)) (Y.iF ht.m (i) rfl u'24 s'52 rfl rfl) fun ad43 pt43 => ?_
   refine LR.v1 (Y.cast (v2 := .agg (fMv y).toArray) (Y.loadN pt43.pt rfl a'52 s'52 (fMv_len _) rfl) (by rw [hey])) ?_
   refine LR.z1 (Z.allocv rfl z'52) fun v7 H7 r7 => ?_
   obtain ⟨rfl, vm, hs7, ob7, hH7⟩ := r7
   have hzs7 : H7.size = HL1.size + 1 := by rw [hH7]; simp
   have dj45 : Dj k4 (HL1.size + 1) := Dj.new ow.le
   have dj46 : Dj (H11.size + 1) (HL1.size + 1) := Dj.new vw.lt
   have nx49 : Nx 0 H37.size (HL1.size + 1) := Nx.new hlm1.size
   replace ow := ow.nw hs7
   replace vw := vw.nw hs7
   replace hlm1 := hlm1.trN hs7
   have hz11 := hs7.size
   refine LR.s1 (S.var vm (_) (fMv y) rfl rfl rfl rfl (fMv_one y) s'52 (fMv_len _) (by decide) ((splice_all2 (fMv_len _).symm))) fun H11_3 r11_3 => ?_
   obtain ⟨vm, hs11_3⟩ := r11_3
   replace hs11_3 := hs11_3.md1
   replace ow := ow.upL hs11_3 (DL.o dj45)
   replace vw := vw.upL hs11_3 (DL.o dj46)
   replace hlm1 := hlm1.trL hs11_3 (MIL.o (MI.q nx49))
   have hz12 := hs11_3.size
   refine LR.nil (hK18 _ _ (CW.s1 (fun hK19 => CW.region ?_)))
   refine LR.m1 ?_
   refine LR.v1 (Y.FA vm.pt rfl u'52 rfl s'9) ?_
   refine LR.v1 (Y.load1 vm.pt rfl a'9 rfl) ?_
   refine LR.call rfl c'101 rfl (Wd.u rfl) rfl rfl (wtext_ct _ _ _ _ 1 y.n w0 _ vw ow (dj41) (by omega) (by decide) (by omega)) (fun v48 H48 r48 => ?_)
   have ql53 := vm.lt
   obtain ⟨s48, k48, rfl, vw, ow, hk48, hd48, hs48⟩ := r48
   have dj57 : Dj (HL1.size + 1) k48 := Dj.app (dj45.symm) ql53 hk48
   have nx59 : Nx k37 H37.size k48 := Nx.tr (nx42) hk48 hlm1.size
   replace vm := vm.upL hs48 (DL.cons dj46.symm (DL.o dj45.symm))
   replace hlm1 := hlm1.trL hs48 (MIL.cons (MI.r nx_hlm1_vw) (MIL.o (MI.r nx42)))
   have hz13 := hs48.size
   have hle_ow := ow.le
   refine LR.nil (hK19 _ _ (CW.s1 (fun hK20 => CW.region ?_)))
   refine LR.m1 ?_
   refine LR.v1 (Y.FA vm.pt rfl u'52 rfl s'26) ?_
   refine LR.v1 (Y.cast (v2 := vA y.o) (Y.loadN ((vm.pt.drop 1).take 32) rfl a'26 s'26 (by rw [fMv_o]; exact fA_len _) rfl) (congrArg (fun z : List Value => Value.agg z.toArray) (fMv_o _))) ?_
   refine LR.call rfl c'102 rfl (Wd.u rfl) rfl rfl (wid_ct _ _ _ _ y.o w0 _ vw ow (hd48) (by rw [List.length_append, txB_len]; omega)) (fun v52 H52 r52 => ?_)
   have ql63 := vm.lt
   obtain ⟨s52, k52, rfl, vw, ow, hk52, hd52, hs52⟩ := r52
   have dj67 : Dj (HL1.size + 1) k52 := Dj.app (dj57) ql63 hk52
   have nx69 : Nx k37 H37.size k52 := Nx.tr (nx59) hk52 hlm1.size
   replace vm := vm.upL hs52 (DL.cons dj46.symm (DL.o dj57))
   replace hlm1 := hlm1.trL hs52 (MIL.cons (MI.r nx_hlm1_vw) (MIL.o (MI.r nx59)))
   have hz14 := hs52.size
   have hle_ow := ow.le
   refine LR.nil (hK20 _ _ (CW.s1 (fun hK21 => CW.region ?_)))
   refine LR.m1 ?_
   refine LR.v1 (Y.FA vm.pt rfl u'52 rfl s'26) ?_
   refine LR.v1 (Y.cast (v2 := vA y.w) (Y.loadN ((vm.pt.drop 33).take 32) rfl a'26 s'26 (by rw [fMv_w]; exact fA_len _) rfl) (congrArg (fun z : List Value => Value.agg z.toArray) (fMv_w _))) ?_
   refine LR.call rfl c'102 rfl (Wd.u rfl) rfl rfl (wid_ct _ _ _ _ y.w w0 _ vw ow (hd52) (by rw [List.length_append, List.length_append, txB_len, y.o.2]; omega)) (fun v56 H56 r56 => ?_)
   obtain ⟨s56, k56, rfl, vw, ow, hk56, hd56, hs56⟩ := r56
   have nx79 : Nx k37 H37.size k56 := Nx.tr (nx69) hk56 hlm1.size
   replace vm := vm.upL hs56 (DL.cons dj46.symm (DL.o dj67))
   replace hlm1 := hlm1.trL hs56 (MIL.cons (MI.r nx_hlm1_vw) (MIL.o (MI.r nx69)))
   have hz15 := hs56.size
   have hle_ow := ow.le
   refine LR.nil (hK21 _ _ (CW.region ?_))
   refine LR.m1 ?_
   refine LR.v1 (Y.FA vm.pt rfl u'52 rfl s'9) ?_
   refine LR.v1 (Y.load1 vm.pt.mv65 rfl a'9 rfl) ?_
   refine LR.call rfl c'101 rfl (Wd.u rfl) rfl rfl (wtext_ct _ _ _ _ 2 y.y w0 _ vw ow (hd56) (by rw [List.length_append, List.length_append, List.length_append, txB_len, y.o.2, y.w.2]; omega) (by decide) (by omega)) (fun v60 H60 r60 => ?_)
   obtain ⟨s60, k60, rfl, vw, ow, hk60, hd60, hs60⟩ := r60
   have nx89 : Nx k37 H37.size k60 := Nx.tr (nx79) hk60 hlm1.size
   replace hlm1 := hlm1.trL hs60 (MIL.cons (MI.r nx_hlm1_vw) (MIL.o (MI.r nx79)))
   have hz16 := hs60.size
   have hle_ow := ow.le
   refine LR.nil (hK17 _ _ (hK16 _ _ (CW.region ?_)))
   refine LR.v1 (Y.addi rfl rfl rfl (by omega)) ?_
   refine LR.m1 (LR.nil ?_)
   refine QN.sub (hN13 (i + 1, s60, k60) _ ?_ ?_) ⟨rfl, rfl, rfl, (iv (by omega)), (iv (by omega)), trivial⟩
   · exact ⟨(by omega), vw, (by rw [fm_snoc hil, ← hey, mvT]; simpa only [List.append_assoc] using ow), nx89, hd60, hlm1⟩
   · first | omega | (simp only; omega) | (simp; omega)
  ·
   obtain rfl : i = x.ml.length := by omega
   rw [List.take_length] at ow hyl
   have hpl := preT_len hx
   refine CW.exit (hE15 (.exit 0) nofun _ _ (hE13 (.exit 0) nofun _ _ (hX12 _ _ ?_)))
   refine hK10 _ _ ?_
   refine CW.cut (fun (s_ : (SV) × (Nat)) => match s_ with | (s3, k3) => [(1, .pointer (some ⟨H0.size, 0, none⟩)), (5, .pointer (some ⟨H11.size, 0, none⟩))])
    (fun (s_ : (SV) × (Nat)) (H : Heap) => match s_ with | (s3, k3) => (Var 223 H H11.size [s3.v, .int .i64 0, .int .i64 0]) ∧ (Ow k3 5 H fB 1 s3.v (midT x)) ∧ (Nx k4 HL1.size k3) ∧ (Dj (H11.size + 1) k3) ∧ Mo (Ms [(H11.size + 1), k4]) HL1 H) (fun _ hK22 _ => ?_) ?_
   ·
    have hcm22 : Mo (Ms [(H11.size + 1), k4]) HL1 HL1 := Mo.refl _ _
    have nx_hcm22_vw := Nx.refl (H11.size + 1) HL1.size
    have nx_hcm22_ow := Nx.refl k4 HL1.size
    refine CW.s1 (fun hK23 => CW.region ?_)
    refine LR.v1 (Y.FA va.pt rfl u'32 rfl s'4) ?_
    refine LR.v1 (Y.load1 (va.pt.drop 3) rfl a'4 rfl) (LR.nil (hK23 _ _ ?_))
    refine CW.cond rfl (fun c63 => ?_) (fun c63 => ?_)
    ·
     refine CW.region ?_
     refine LR.m1 ?_
     refine LR.v1 (Y.FA va.pt rfl u'32 rfl s'29) ?_
     refine LR.v1 (Y.cast (v2 := sqV x.q) (Y.loadN ((va.pt.drop 4).take 70) rfl a'29 s'29 (by rw [fTx_q]; exact fSq_len _) rfl) (congrArg (fun z : List Value => Value.agg z.toArray) (fTx_q x))) ?_
     refine LR.call rfl c'103 rfl (Wd.u rfl) rfl rfl (wseq_ct _ _ _ _ x.q F w0 _ vw ow (dj41) (by omega) ht.q (bf_ht.mono hm0.size) (df3) (df38) (hx.k0 c63) (hx.sq c63)) (fun v67 H67 r67 => ?_)
     obtain ⟨s67, k67, rfl, vw, ow, hk67, hd67, hs67⟩ := r67
     have nx97 : Nx k4 HL1.size k67 := Nx.tr (nx_hcm22_ow) hk67 hcm22.size
     replace hcm22 := hcm22.trL hs67 (MIL.cons (MI.r nx_hcm22_vw) (MIL.o (MI.r nx_hcm22_ow)))
     have hz17 := hs67.size
     have hle_ow := ow.le
     refine LR.nil ?_
     refine QN.sub (hK22 (s67, k67) _ ?_) ⟨rfl, rfl, trivial⟩
     exact ⟨vw, (by rw [midT, if_pos c63]; exact ow), nx97, hd67, hcm22⟩
    ·
     refine CW.skip ?_
     refine QN.sub (hK22 (s4, k4) _ ?_) ⟨rfl, rfl, trivial⟩
     exact ⟨vw, (by rw [midT, if_neg (by simp [c63]), List.append_nil]; exact ow), nx_hcm22_ow, dj41, hcm22⟩
   ·
    rintro ⟨s3, k3⟩ Hcutc63 hIcutc63
    obtain ⟨vw, ow, nxl_ow, dj_vw_ow, hlmcutc63⟩ := hIcutc63
    have df98 := DF.app (df38) (bf_ht.mono hm0.size) nxl_ow
    have dj99 : Dj (H0.size + 1) k3 := Dj.app (dj39) va.lt nxl_ow
    have nx100 : Nx 0 H0.size k3 := Nx.tr (nx40) nxl_ow hm0.size
    replace ht := ht.upL hlmcutc63 (DFL.cons df3 (DFL.o df38))
    replace va := va.upL hlmcutc63 (DL.cons dj4 (DL.o dj39))
    replace hm0 := hm0.tq hlmcutc63 (MIL.cons (MI.q nx5) (MIL.o (MI.q nx40)))
    have hz18 := hlmcutc63.size
    have hle_ow := ow.le
    have dj101 := dj_vw_ow
    refine CW.s1 (fun hK24 => CW.region ?_)
    refine LR.m1 ?_
    refine LR.v1 (Y.FA va.pt rfl u'32 rfl s'30) ?_
    refine LR.v1 (Y.load1 va.pt.tx74 rfl a'30 rfl) ?_
    refine LR.v1 (Y.len ht.e rfl u'30 rfl) ?_
    refine LR.v1 (Y.conv_u64 rfl u'3 u'216 rfl) ?_
    refine LR.call rfl c'99 rfl (Wd.u rfl) rfl rfl (wnum_ct _ _ _ _ 2 _ w0 _ vw ow (dj101) (by decide) (by have := midT_len hx; omega)) (fun v73 H73 r73 => ?_)
    obtain ⟨s73, k73, rfl, vw, ow, hk73, hd73, hs73⟩ := r73
    have df106 := DF.app (df98) (bf_ht.mono hm0.size) hk73
    have nx109 : Nx 0 H0.size k73 := Nx.tr (nx100) hk73 hm0.size
    replace ht := ht.upL hs73 (DFL.cons df3 (DFL.o df98))
    replace va := va.upL hs73 (DL.cons dj4 (DL.o dj99))
    replace hm0 := hm0.tq hs73 (MIL.cons (MI.q nx5) (MIL.o (MI.q nx100)))
    have hz19 := hs73.size
    have hle_ow := ow.le
    refine LR.nil (hK24 _ _ (CW.s1 (fun hK25 => CW.s1 (fun hK26 => CW.region ?_))))
    refine LR.v1 (Y.FA va.pt rfl u'32 rfl s'30) ?_
    refine LR.v1 (Y.load1 va.pt.tx74 rfl a'30 rfl) ?_
    refine LR.v1 (Y.len ht.e rfl u'30 rfl) ?_
    refine LR.m1 (LR.nil (hK26 _ _ ?_))
    refine CW.block (fun _ _ hX27 _ => ?_)
    refine CW.loop (fun (s_ : (Nat) × (SV) × (Nat)) => match s_ with | (i, s5, k5) => [(5, .pointer (some ⟨H11.size, 0, none⟩)), (75, x.ev.v), (76, .int .i64 (x.el.length : Int)), (77, .int .i64 i)])
     (fun (s_ : (Nat) × (SV) × (Nat)) (H : Heap) => match s_ with | (i, s5, k5) => (i ≤ x.el.length) ∧ (Var 223 H H11.size [s5.v, .int .i64 0, .int .i64 0]) ∧ (Ow k5 5 H fB 1 s5.v (midT x ++ numL 2 (UInt64.ofNat x.el.length) ++ (x.el.take i).flatMap mmT)) ∧ (Nx k73 H73.size k5) ∧ (Dj (H11.size + 1) k5) ∧ Mo (Ms [(H11.size + 1), k73]) H73 H)
     (fun (s_ : (Nat) × (SV) × (Nat)) => match s_ with | (i, s5, k5) => x.el.length - i) (0, s73, k73) ⟨rfl, rfl, rfl, rfl, trivial⟩ ?_ ?_
    ·
     exact ⟨(by omega), vw, (by simpa using ow), Nx.refl _ _, hd73, Mo.refl _ _⟩
    rintro ⟨i, s5, k5⟩ HL2 hI2 K28 hN28 hE28
    obtain ⟨hi, vw, ow, nxl_ow, dj_vw_ow, hlm2⟩ := hI2
    have df110 := DF.app (df106) (bf_ht.mono hm0.size) nxl_ow
    have nx111 : Nx 0 H0.size k5 := Nx.tr (nx109) nxl_ow hm0.size
    replace ht := ht.upL hlm2 (DFL.cons df3 (DFL.o df106))
    replace hm0 := hm0.tq hlm2 (MIL.cons (MI.q nx5) (MIL.o (MI.q nx109)))
    have hz20 := hlm2.size
    have hle_ow := ow.le
    have dj112 := dj_vw_ow
    have nx_hlm2_vw := Nx.refl (H11.size + 1) H73.size
    have nx113 := nxl_ow
    have hil0 := els_len hx i
    have hml0 := midT_len hx
    have hel0 := hx.el
    have hyl : (midT x ++ numL 2 (UInt64.ofNat x.el.length) ++ (x.el.take i).flatMap mmT).length ≤ 8800000000 := by simp only [List.length_append, numL_len]; omega
    refine CW.s1 (fun hK29 => CW.region ?_)
    refine LR.v1 (Y.lss rfl rfl rfl) (LR.nil (hK29 _ _ ?_))
    refine CW.s2 (fun hK30 hE30 => ?_)
    refine CW.condp rfl (fun c78 => ?_) (fun c78 => ?_)
    ·
     refine CW.skip (hK30 _ _ (CW.s1 (fun hK31 => CW.block (fun _ hK32 _ _ => CW.s1 (fun hK33 => CW.region ?_)))))
     have hil : i < x.el.length := by omega
     obtain ⟨y, hey⟩ : ∃ q, q = x.el[i] := ⟨_, rfl⟩
     have hmy : y ∈ x.el := by rw [hey]; exact List.getElem_mem hil
     have hyd := hx.md y hmy
     refine LR.e1 (g := fun ad => .pointer (some ad)) (Y.iF ht.e (i) rfl u'30 s'68 rfl rfl) fun ad79 pt79 => ?_
     refine LR.v1 (Y.cast (v2 := .agg (fMm y).toArray) (Y.loadN pt79.pt rfl a'68 s'68 (fMm_len _) rfl) (by rw [hey])) ?_
     refine LR.z1 (Z.allocv rfl z'68) fun v9 H9 r9 => ?_
     obtain ⟨rfl, vn, hs9, ob9, hH9⟩ := r9
     have hzs9 : H9.size = HL2.size + 1 := by rw [hH9]; simp
     have df114 := (DF.new (bf_ht.mono hm0.size) : DF _ (HL2.size + 1))
     have dj115 : Dj k5 (HL2.size + 1) := Dj.new ow.le
     have dj116 : Dj (H11.size + 1) (HL2.size + 1) := Dj.new vw.lt
     have nx119 : Nx 0 H73.size (HL2.size + 1) := Nx.new hlm2.size
     replace ht := ht.nw hs9
     replace ow := ow.nw hs9
     replace vw := vw.nw hs9
     replace hlm2 := hlm2.trN hs9
     have hz21 := hs9.size
     refine LR.s1 (S.var vn (_) (fMm y) rfl rfl rfl rfl (fMm_one y) s'68 (fMm_len _) (by decide) ((splice_all2 (fMm_len _).symm))) fun H22_3 r22_3 => ?_
     obtain ⟨vn, hs22_3⟩ := r22_3
     replace hs22_3 := hs22_3.md1
     replace ht := ht.upL hs22_3 (DFL.o df114)
     replace ow := ow.upL hs22_3 (DL.o dj115)
     replace vw := vw.upL hs22_3 (DL.o dj116)
     replace hlm2 := hlm2.trL hs22_3 (MIL.o (MI.q nx119))
     have hz22 := hs22_3.size
     refine LR.nil (hK33 _ _ (CW.s1 (fun hK34 => CW.region ?_)))
     refine LR.m1 ?_
     refine LR.v1 (Y.FA vn.pt rfl u'68 rfl s'26) ?_
     refine LR.v1 (Y.cast (v2 := vA y.k) (Y.loadN (vn.pt.take 32) rfl a'26 s'26 (by rw [show (fMm y).take 32 = fA y.k from fMm_k y]; exact fA_len _) rfl) (congrArg (fun z : List Value => Value.agg z.toArray) (show (fMm y).take 32 = fA y.k from fMm_k y))) ?_
     refine LR.call rfl c'102 rfl (Wd.u rfl) rfl rfl (wid_ct _ _ _ _ y.k w0 _ vw ow (dj112) (by omega)) (fun v84 H84 r84 => ?_)
     obtain ⟨s84, k84, rfl, vw, ow, hk84, hd84, hs84⟩ := r84
     have nx127 : Nx k73 H73.size k84 := Nx.tr (nx113) hk84 hlm2.size
     replace ht := ht.upL hs84 (DFL.cons df3 (DFL.o df110))
     replace vn := vn.upL hs84 (DL.cons dj116.symm (DL.o dj115.symm))
     replace hlm2 := hlm2.trL hs84 (MIL.cons (MI.r nx_hlm2_vw) (MIL.o (MI.r nx113)))
     have hz23 := hs84.size
     have hle_ow := ow.le
     refine LR.nil (hK34 _ _ (CW.region ?_))
     refine LR.m1 ?_
     refine LR.v1 (Y.FA vn.pt rfl u'68 rfl s'57) ?_
     refine LR.v1 (Y.load1 vn.pt.mm32 rfl a'57 rfl) ?_
     refine LR.v1 (Y.bstr (ht.d y hmy) rfl Tryz.underlying57 Tryz.underlying9 Tryz.underlying5 rfl) ?_
     refine LR.call rfl c'101 rfl (Wd.u rfl) rfl rfl (wtext_ct _ _ _ _ 4 y.d w0 _ vw ow (hd84) (by rw [List.length_append, y.k.2]; omega) (by decide) (by omega)) (fun v89 H89 r89 => ?_)
     obtain ⟨s89, k89, rfl, vw, ow, hk89, hd89, hs89⟩ := r89
     have nx135 : Nx k73 H73.size k89 := Nx.tr (nx127) hk89 hlm2.size
     replace hlm2 := hlm2.trL hs89 (MIL.cons (MI.r nx_hlm2_vw) (MIL.o (MI.r nx127)))
     have hz24 := hs89.size
     have hle_ow := ow.le
     refine LR.nil (hK32 _ _ (hK31 _ _ (CW.region ?_)))
     refine LR.v1 (Y.addi rfl rfl rfl (by omega)) ?_
     refine LR.m1 (LR.nil ?_)
     refine QN.sub (hN28 (i + 1, s89, k89) _ ?_ ?_) ⟨rfl, rfl, (iv (by omega)), (iv (by omega)), trivial⟩
     · exact ⟨(by omega), vw, (by rw [fm_snoc hil, ← hey, mmT]; simpa only [List.append_assoc] using ow), nx135, hd89, hlm2⟩
     · first | omega | (simp only; omega) | (simp; omega)
    ·
     obtain rfl : i = x.el.length := by omega
     rw [List.take_length] at ow
     refine CW.exit (hE30 (.exit 2) nofun _ _ (hE28 (.exit 2) nofun _ _ (hX27 _ _ ?_)))
     refine hK25 _ _ (CW.s1 (fun hK35 => CW.region ?_))
     refine LR.m1 ?_
     refine LR.call rfl c'104 rfl (Wd.u rfl) rfl rfl (wdone_ct _ _ w0 _ vw) (fun v92 H92 r92 => ?_)
     obtain ⟨rfl, hs92⟩ := r92
     replace ow := ow.nw hs92
     replace hm0 := hm0.tr hs92
     refine LR.v1 (Y.extract rfl rfl rfl) ?_
     refine LR.v1 (Y.extract rfl rfl rfl) ?_
     refine LR.a1 ?_
     refine LR.a1 (LR.nil (hK35 _ _ ?_))
     refine CW.ret (hret .ret (.inr rfl) _ _ _ (res2 rfl rfl rfl) ?_)
     exact ⟨s5, k5, rfl, by rw [encT_eq]; exact ow, nx111, hm0⟩
end Go.Proofs.YtfjmpninmdjcaaaGreatDoor.RefR
