/-
  Chunks compared; texts merged.
-/
import Derived.Test.YtadgeooceeilpaaMerF
import Derived.Test.YtadgeooceeilpaaClo
namespace Go.Proofs.Ytadgeooceeilpaa.MerG
open Go.Proofs.Ytadgeooceeilpaa.E Go.RowKit Go.Proofs.Ytadgeooceeilpaa.LinM Go.Proofs.Ytadgeooceeilpaa.LinA Go.Proofs.Ytadgeooceeilpaa.LinC Go.Proofs.Ytadgeooceeilpaa.LinF Go.Proofs.Ytadgeooceeilpaa.LinL Go.Proofs.Ytadgeooceeilpaa.LinN Go.Proofs.Ytadgeooceeilpaa.MerA Go.Proofs.Ytadgeooceeilpaa.MerB Go.Proofs.Ytadgeooceeilpaa.MerC Go.Proofs.Ytadgeooceeilpaa.MerD Go.Proofs.Ytadgeooceeilpaa.MerE Go.Proofs.Ytadgeooceeilpaa.MerF
set_option linter.unusedVariables false
set_option linter.unusedSimpArgs false
set_option linter.unusedSectionVars false

theorem getc {l1 l2 : List Ck} (e : l1.map Ck.c = l2.map Ck.c) (i : Nat) (h1 : i < l1.length) (h2 : i < l2.length) : l1[i].k = l2[i].k ∧ l1[i].b = l2[i].b ∧ l1[i].o = l2[i].o ∧ l1[i].t = l2[i].t := by
  have h : (l1.map Ck.c)[i]'(by simpa using h1) = (l2.map Ck.c)[i]'(by simpa using h2) := by simp only [e]
  simp only [List.getElem_map, Ck.c, Prod.mk.injEq] at h
  exact h
theorem few3 (v : Value) (l : List (List UInt8)) (w0 : World) (H0 : Heap) (hv : RdT H0 fS 1 v l) (hs : ∀ s ∈ l, s.length ≤ 1048576) (hl : l.length ≤ 1048576) : Ct Try.prog w0 29 #[v] H0 (fun r H2 => r = .bool (decide (Few l)) ∧ Nw H0 H2) :=
  (few_ct v l w0 H0 hv hs hl).mono (fun r H2 ⟨h1, h2⟩ => ⟨h1, h2 ▸ Nw.refl _⟩)
theorem Few.flat {l : List (List UInt8)} (h : Few l) : l.length < 120 ∧ l.flatten.length ≤ 2400 := by
  have h0 := h.len
  refine ⟨h0, ?_⟩
  unfold Few few at h
  rw [List.take_of_length_le (by omega)] at h
  have : ∀ l : List (List UInt8), l.flatten.length ≤ 20 * (l.map (fun s => s.length / 20)).sum + 20 * l.length := by
    intro l
    induction l with
    | nil => simp
    | cons x t ih => simp only [List.flatten_cons, List.length_append, List.map_cons, List.sum_cons, List.length_cons]; omega
  have := this l
  omega
theorem part_le {g : Cn → List (List UInt8)} : ∀ (cs : List Cn) (c : Cn), c ∈ cs → (g c).flatten.length ≤ ((cs.map g).flatten).flatten.length
  | x :: cs, c, h => by
    rw [List.map_cons, List.flatten_cons, List.flatten_append, List.length_append]
    rcases List.mem_cons.1 h with rfl | h
    · omega
    · have := part_le (g := g) cs c h; omega
theorem chunks_cat (a o t : List (List UInt8)) : ((chunksL a o t).map (fun c => c.2.1)).flatten = a ∧ ((chunksL a o t).map (fun c => c.2.2.1)).flatten = o ∧ ((chunksL a o t).map (fun c => c.2.2.2)).flatten = t := by
  have u := chS_ups (parts_al a o) (parts_al a t) a.length (Nat.le_refl _)
  obtain ⟨c1, c2, c3⟩ := u.cat
  rw [chunksL, chF, (addG_cat _ _ _ _).1, (addG_cat _ _ _ _).2.1, (addG_cat _ _ _ _).2.2, c1, c2, c3]
  exact ⟨List.take_append_drop _ _, List.take_append_drop _ _, List.take_append_drop _ _⟩
theorem chunks_bd {a o t : List (List UInt8)} (ha : a.flatten.length ≤ 1048576) (ho : o.flatten.length ≤ 1048576) (ht : t.flatten.length ≤ 1048576) : ∀ c ∈ chunksL a o t, BdC c := by
  obtain ⟨c1, c2, c3⟩ := chunks_cat a o t
  intro c hc
  have h1 := part_le (g := fun c => c.2.1) _ c hc
  have h2 := part_le (g := fun c => c.2.2.1) _ c hc
  have h3 := part_le (g := fun c => c.2.2.2) _ c hc
  rw [c1] at h1
  rw [c2] at h2
  rw [c3] at h3
  exact ⟨Nat.le_trans h1 ha, Nat.le_trans h2 ho, Nat.le_trans h3 ht⟩
theorem chunks_len (a o t : List (List UInt8)) : (chunksL a o t).length ≤ 2 * a.length + 1 := by
  have u := (chS_ups (parts_al a o) (parts_al a t) a.length (Nat.le_refl _)).n
  rw [chunksL, chF]
  have := addG_len (chS a o t (parts a o) (parts a t) a.length).1 (a.drop (chS a o t (parts a o) (parts a t) a.length).2.1) (o.drop (chS a o t (parts a o) (parts a t) a.length).2.2.1) (t.drop (chS a o t (parts a o) (parts a t) a.length).2.2.2)
  omega
/-- no clash -/
def cleanL (cs : List Cn) : Bool := cs.all (fun c => decide (c.1 ≠ 4))
def mchL (a o t : List UInt8) : List Cn := chunksL (splitL [] a) (splitL [] o) (splitL [] t)
theorem any_k {l : List Ck} : l.any (fun x => decide (x.k = 4)) = !cleanL (l.map Ck.c) := by
  simp only [cleanL, List.all_map, List.any_eq_not_all_not, Bool.not_not]
  congr 1
  apply List.all_congr rfl
  intro x
  simp
theorem any_take {α : Type} {l : List α} {p : α → Bool} {j : Nat} (h : (l.take j).any p = false) (hj : j < l.length) (hp : p l[j] = false) : (l.take (j + 1)).any p = false := by
  rw [List.take_succ_eq_append_getElem hj, List.any_append, h]
  simp [hp]
theorem any_at {α : Type} {l : List α} {p : α → Bool} {j : Nat} (hj : j < l.length) (hp : p l[j] = true) : l.any p = true := List.any_eq_true.2 ⟨l[j], List.getElem_mem hj, hp⟩

set_option maxHeartbeats 4000000 in
theorem sameC_ct (v1 v2 : Value) (l1 l2 : List Ck) (w0 : World) (H0 : Heap)
    (h1 : RdT H0 fK 4 v1 l1) (h2 : RdT H0 fK 4 v2 l2) (hx1 : ∀ x ∈ l1, CkR (fun _ => True) H0 x) (hx2 : ∀ x ∈ l2, CkR (fun _ => True) H0 x) :
    Ct Try.prog w0 14 #[v1, v2] H0 (fun r H2 => r = .bool (decide (l1.map Ck.c = l2.map Ck.c)) ∧ Nw H0 H2) := by
  refine Ct.enter (args := [v1, v2]) Try.func14 rfl rfl rfl ?_
  intro Q0 hret
  have hm0 : Nw H0 H0 := Mo.refl _ _
  replace h1 := h1.bnd
  have bf_h1 := Rd.bf h1
  replace h2 := h2.bnd
  have bf_h2 := Rd.bf h2
  replace hx1 := fun x hx_ => (hx1 x hx_).bnd
  have bf_hx1 : BF (fun b => True ∧ b < H0.size) H0.size := fun b h => h.2
  replace hx2 := fun x hx_ => (hx2 x hx_).bnd
  have bf_hx2 : BF (fun b => True ∧ b < H0.size) H0.size := fun b h => h.2
  have hl1 := h1.len
  have hl2 := h2.len
  refine CW.seq (fun K1 hK1 hE1 => ?_)
  refine CW.region ?_
  refine LR.v (Y.assign rfl rfl) (Wd.u rfl) rfl rfl ?_
  refine LR.nil ?_
  refine hK1 _ _ ?_
  refine CW.seq (fun K2 hK2 hE2 => ?_)
  refine CW.seq (fun K3 hK3 hE3 => ?_)
  refine CW.region ?_
  refine LR.v (Y.move rfl rfl) (Wd.u rfl) rfl rfl ?_
  refine LR.v (Y.len h1 rfl Try.runUnderlying25 rfl) (Wd.u rfl) rfl rfl ?_
  refine LR.v (Y.move rfl rfl) (Wd.u rfl) rfl rfl ?_
  refine LR.v (Y.len h2 rfl Try.runUnderlying25 rfl) (Wd.u rfl) rfl rfl ?_
  refine LR.v (Y.neq rfl rfl rfl) (Wd.u rfl) rfl rfl ?_
  refine LR.nil ?_
  refine hK3 _ _ ?_
  refine CW.condp rfl (fun c10 => ?_) (fun c10 => ?_)
  ·
    refine CW.seq (fun K4 hK4 hE4 => ?_)
    refine CW.region ?_
    refine LR.v (Y.assign rfl rfl) (Wd.u rfl) rfl rfl ?_
    refine LR.nil ?_
    refine hK4 _ _ ?_
    refine CW.ret (hE2 .ret nofun _ _ (hret .ret (.inr rfl) _ _ _ (res1 rfl rfl) ?_))
    exact ⟨by rw [decide_eq_false (fun e => c10 (by have := congrArg List.length e; simp at this; rw [this]))], hm0⟩
  ·
    refine CW.skip ?_
    refine hK2 _ _ ?_
    refine CW.seq (fun K5 hK5 hE5 => ?_)
    refine CW.seq (fun K6 hK6 hE6 => ?_)
    refine CW.region ?_
    refine LR.v (Y.assign rfl rfl) (Wd.u rfl) rfl rfl ?_
    refine LR.nil ?_
    refine hK6 _ _ ?_
    refine CW.block (fun K7 hK7 hX7 hE7 => ?_)
    refine CW.loop (fun (i : (Nat)) => [(0, v1), (1, v2), (5, .int .i64 i)])
      (fun (i : (Nat)) (H : Heap) => (i ≤ l1.length) ∧ ((l1.map Ck.c).take i = (l2.map Ck.c).take i) ∧ Nw H0 H)
      (fun (i : (Nat)) => l1.length - i) 0 ⟨rfl, rfl, rfl, trivial⟩ ?_ ?_
    ·
      exact ⟨(by omega), rfl, Mo.refl _ _⟩
    intro i HL1 hI1 K8 hN8 hE8
    obtain ⟨hi, ht, hlm1⟩ := hI1
    replace h1 := h1.nw hlm1
    replace h2 := h2.nw hlm1
    replace hx1 := fun x hx_ => (hx1 x hx_).nw hlm1
    replace hx2 := fun x hx_ => (hx2 x hx_).nw hlm1
    replace hm0 := hm0.tr hlm1
    have hz1 := hlm1.size
    refine CW.seq (fun K9 hK9 hE9 => ?_)
    refine CW.seq (fun K10 hK10 hE10 => ?_)
    refine CW.region ?_
    refine LR.v (Y.move rfl rfl) (Wd.u rfl) rfl rfl ?_
    refine LR.v (Y.move rfl rfl) (Wd.u rfl) rfl rfl ?_
    refine LR.v (Y.len h1 rfl Try.runUnderlying25 rfl) (Wd.u rfl) rfl rfl ?_
    refine LR.v (Y.lss rfl rfl rfl) (Wd.u rfl) rfl rfl ?_
    refine LR.nil ?_
    refine hK10 _ _ ?_
    refine CW.condp rfl (fun c14 => ?_) (fun c14 => ?_)
    ·
      refine CW.skip ?_
      refine hK9 _ _ ?_
      refine CW.seq (fun K11 hK11 hE11 => ?_)
      refine CW.block (fun K12 hK12 hX12 hE12 => ?_)
      refine CW.seq (fun K13 hK13 hE13 => ?_)
      refine CW.region_any (fun Hq => Nw HL1 Hq) [] rfl ?_
      have hqs := Nw.refl HL1
      refine LH.take 0 (by kernel_rfl) rfl (by kernel_rfl) (by kernel_rfl) (by kernel_rfl) (fun Hq hq => Y.move rfl rfl) (Wd.u rfl) rfl rfl hqs ?_
      refine LH.take 1 (by kernel_rfl) rfl (by kernel_rfl) (by kernel_rfl) (by kernel_rfl) (fun Hq hq => Y.move rfl rfl) (Wd.u rfl) rfl rfl hqs ?_
      refine LH.e (g := fun ad => .pointer (some ad)) 2 (by kernel_rfl) rfl (by kernel_rfl) (by kernel_rfl) (by kernel_rfl) (Y.indexAddrF h1 (i) rfl Try.runUnderlying25 Try.sizeOf42 rfl rfl (by first | rfl | omega) (by first | omega | (simp; omega) | (simp; done))) (Wd.u rfl) rfl rfl hqs (fun ad19 pt19 => ?_)
      have bf_pt19 := bf_h1
      refine LH.take 3 (by kernel_rfl) rfl (by kernel_rfl) (by kernel_rfl) (by kernel_rfl) (fun Hq hq => Y.fieldAddr (pt19.pt.nw hq) rfl Try.runUnderlying42 rfl rfl Try.sizeOf3 (by decide) rfl) (Wd.u rfl) rfl rfl hqs ?_
      refine LH.take 4 (by kernel_rfl) rfl (by kernel_rfl) (by kernel_rfl) (by kernel_rfl) (fun Hq hq => Y.load1 ((pt19.pt.drop 0).nw hq) rfl Try.isAgg3 rfl) (Wd.u rfl) rfl rfl hqs ?_
      refine LH.take 5 (by kernel_rfl) rfl (by kernel_rfl) (by kernel_rfl) (by kernel_rfl) (fun Hq hq => Y.move rfl rfl) (Wd.u rfl) rfl rfl hqs ?_
      refine LH.take 6 (by kernel_rfl) rfl (by kernel_rfl) (by kernel_rfl) (by kernel_rfl) (fun Hq hq => Y.move rfl rfl) (Wd.u rfl) rfl rfl hqs ?_
      refine LH.e (g := fun ad => .pointer (some ad)) 7 (by kernel_rfl) rfl (by kernel_rfl) (by kernel_rfl) (by kernel_rfl) (Y.indexAddrF h2 (i) rfl Try.runUnderlying25 Try.sizeOf42 rfl rfl (by first | rfl | omega) (by first | omega | (simp; omega) | (simp; done))) (Wd.u rfl) rfl rfl hqs (fun ad24 pt24 => ?_)
      have bf_pt24 := bf_h2
      refine LH.take 8 (by kernel_rfl) rfl (by kernel_rfl) (by kernel_rfl) (by kernel_rfl) (fun Hq hq => Y.fieldAddr (pt24.pt.nw hq) rfl Try.runUnderlying42 rfl rfl Try.sizeOf3 (by decide) rfl) (Wd.u rfl) rfl rfl hqs ?_
      refine LH.take 9 (by kernel_rfl) rfl (by kernel_rfl) (by kernel_rfl) (by kernel_rfl) (fun Hq hq => Y.load1 ((pt24.pt.drop 0).nw hq) rfl Try.isAgg3 rfl) (Wd.u rfl) rfl rfl hqs ?_
      refine LH.take 10 (by kernel_rfl) rfl (by kernel_rfl) (by kernel_rfl) (by kernel_rfl) (fun Hq hq => Y.neq rfl rfl rfl) (Wd.u rfl) rfl rfl hqs ?_
      refine LH.take 11 (by kernel_rfl) rfl (by kernel_rfl) (by kernel_rfl) (by kernel_rfl) (fun Hq hq => Y.move rfl rfl) (Wd.u rfl) rfl rfl hqs ?_
      refine LH.splitp (d := 28) rfl (fun g28 => ?_) (fun g28 => ?_)
      ·
        refine LH.gs 12 (by kernel_rfl) rfl (by kernel_rfl) (by kernel_rfl) (by kernel_rfl) rfl rfl rfl rfl rfl rfl hqs ?_
        refine LH.gs 13 (by kernel_rfl) rfl (by kernel_rfl) (by kernel_rfl) (by kernel_rfl) rfl rfl rfl rfl rfl rfl hqs ?_
        refine LH.gs 14 (by kernel_rfl) rfl (by kernel_rfl) (by kernel_rfl) (by kernel_rfl) rfl rfl rfl rfl rfl rfl hqs ?_
        refine LH.gs 15 (by kernel_rfl) rfl (by kernel_rfl) (by kernel_rfl) (by kernel_rfl) rfl rfl rfl rfl rfl rfl hqs ?_
        refine LH.gs 16 (by kernel_rfl) rfl (by kernel_rfl) (by kernel_rfl) (by kernel_rfl) rfl rfl rfl rfl rfl rfl hqs ?_
        refine LH.gs 17 (by kernel_rfl) rfl (by kernel_rfl) (by kernel_rfl) (by kernel_rfl) rfl rfl rfl rfl rfl rfl hqs ?_
        refine LH.gs 18 (by kernel_rfl) rfl (by kernel_rfl) (by kernel_rfl) (by kernel_rfl) rfl rfl rfl rfl rfl rfl hqs ?_
        refine LH.gs 19 (by kernel_rfl) rfl (by kernel_rfl) (by kernel_rfl) (by kernel_rfl) rfl rfl rfl rfl rfl rfl hqs ?_
        refine LH.gs 20 (by kernel_rfl) rfl (by kernel_rfl) (by kernel_rfl) (by kernel_rfl) rfl rfl rfl rfl rfl rfl hqs ?_
        refine LH.gs 21 (by kernel_rfl) rfl (by kernel_rfl) (by kernel_rfl) (by kernel_rfl) rfl rfl rfl rfl rfl rfl hqs ?_
        refine LH.gs 22 (by kernel_rfl) rfl (by kernel_rfl) (by kernel_rfl) (by kernel_rfl) rfl rfl rfl rfl rfl rfl hqs ?_
        refine LH.gs 23 (by kernel_rfl) rfl (by kernel_rfl) (by kernel_rfl) (by kernel_rfl) rfl rfl rfl rfl rfl rfl hqs ?_
        refine LH.take 24 (by kernel_rfl) rfl (by kernel_rfl) (by kernel_rfl) (by kernel_rfl) (fun Hq hq => Y.pick_t rfl rfl rfl) (Wd.u rfl) rfl rfl hqs ?_
        refine LH.take 25 (by kernel_rfl) rfl (by kernel_rfl) (by kernel_rfl) (by kernel_rfl) (fun Hq hq => Y.move rfl rfl) (Wd.u rfl) rfl rfl hqs ?_
        refine LH.gs 26 (by kernel_rfl) rfl (by kernel_rfl) (by kernel_rfl) (by kernel_rfl) rfl rfl rfl rfl rfl rfl hqs ?_
        refine LH.gs 27 (by kernel_rfl) rfl (by kernel_rfl) (by kernel_rfl) (by kernel_rfl) rfl rfl rfl rfl rfl rfl hqs ?_
        refine LH.gs 28 (by kernel_rfl) rfl (by kernel_rfl) (by kernel_rfl) (by kernel_rfl) rfl rfl rfl rfl rfl rfl hqs ?_
        refine LH.gs 29 (by kernel_rfl) rfl (by kernel_rfl) (by kernel_rfl) (by kernel_rfl) rfl rfl rfl rfl rfl rfl hqs ?_
        refine LH.gs 30 (by kernel_rfl) rfl (by kernel_rfl) (by kernel_rfl) (by kernel_rfl) rfl rfl rfl rfl rfl rfl hqs ?_
        refine LH.gs 31 (by kernel_rfl) rfl (by kernel_rfl) (by kernel_rfl) (by kernel_rfl) rfl rfl rfl rfl rfl rfl hqs ?_
        refine LH.gs 32 (by kernel_rfl) rfl (by kernel_rfl) (by kernel_rfl) (by kernel_rfl) rfl rfl rfl rfl rfl rfl hqs ?_
        refine LH.gs 33 (by kernel_rfl) rfl (by kernel_rfl) (by kernel_rfl) (by kernel_rfl) rfl rfl rfl rfl rfl rfl hqs ?_
        refine LH.gs 34 (by kernel_rfl) rfl (by kernel_rfl) (by kernel_rfl) (by kernel_rfl) rfl rfl rfl rfl rfl rfl hqs ?_
        refine LH.gs 35 (by kernel_rfl) rfl (by kernel_rfl) (by kernel_rfl) (by kernel_rfl) rfl rfl rfl rfl rfl rfl hqs ?_
        refine LH.gs 36 (by kernel_rfl) rfl (by kernel_rfl) (by kernel_rfl) (by kernel_rfl) rfl rfl rfl rfl rfl rfl hqs ?_
        refine LH.gs 37 (by kernel_rfl) rfl (by kernel_rfl) (by kernel_rfl) (by kernel_rfl) rfl rfl rfl rfl rfl rfl hqs ?_
        refine LH.take 38 (by kernel_rfl) rfl (by kernel_rfl) (by kernel_rfl) (by kernel_rfl) (fun Hq hq => Y.pick_t rfl rfl rfl) (Wd.u rfl) rfl rfl hqs ?_
        refine LH.take 39 (by kernel_rfl) rfl (by kernel_rfl) (by kernel_rfl) (by kernel_rfl) (fun Hq hq => Y.move rfl rfl) (Wd.u rfl) rfl rfl hqs ?_
        refine LH.gs 40 (by kernel_rfl) rfl (by kernel_rfl) (by kernel_rfl) (by kernel_rfl) rfl rfl rfl rfl rfl rfl hqs ?_
        refine LH.gs 41 (by kernel_rfl) rfl (by kernel_rfl) (by kernel_rfl) (by kernel_rfl) rfl rfl rfl rfl rfl rfl hqs ?_
        refine LH.gs 42 (by kernel_rfl) rfl (by kernel_rfl) (by kernel_rfl) (by kernel_rfl) rfl rfl rfl rfl rfl rfl hqs ?_
        refine LH.gs 43 (by kernel_rfl) rfl (by kernel_rfl) (by kernel_rfl) (by kernel_rfl) rfl rfl rfl rfl rfl rfl hqs ?_
        refine LH.gs 44 (by kernel_rfl) rfl (by kernel_rfl) (by kernel_rfl) (by kernel_rfl) rfl rfl rfl rfl rfl rfl hqs ?_
        refine LH.gs 45 (by kernel_rfl) rfl (by kernel_rfl) (by kernel_rfl) (by kernel_rfl) rfl rfl rfl rfl rfl rfl hqs ?_
        refine LH.gs 46 (by kernel_rfl) rfl (by kernel_rfl) (by kernel_rfl) (by kernel_rfl) rfl rfl rfl rfl rfl rfl hqs ?_
        refine LH.gs 47 (by kernel_rfl) rfl (by kernel_rfl) (by kernel_rfl) (by kernel_rfl) rfl rfl rfl rfl rfl rfl hqs ?_
        refine LH.gs 48 (by kernel_rfl) rfl (by kernel_rfl) (by kernel_rfl) (by kernel_rfl) rfl rfl rfl rfl rfl rfl hqs ?_
        refine LH.gs 49 (by kernel_rfl) rfl (by kernel_rfl) (by kernel_rfl) (by kernel_rfl) rfl rfl rfl rfl rfl rfl hqs ?_
        refine LH.gs 50 (by kernel_rfl) rfl (by kernel_rfl) (by kernel_rfl) (by kernel_rfl) rfl rfl rfl rfl rfl rfl hqs ?_
        refine LH.gs 51 (by kernel_rfl) rfl (by kernel_rfl) (by kernel_rfl) (by kernel_rfl) rfl rfl rfl rfl rfl rfl hqs ?_
        refine LH.take 52 (by kernel_rfl) rfl (by kernel_rfl) (by kernel_rfl) (by kernel_rfl) (fun Hq hq => Y.pick_t rfl rfl rfl) (Wd.u rfl) rfl rfl hqs ?_
        refine LH.done (by kernel_rfl) ?_
        have hqe := hqs
        refine hK13 _ _ ?_
        refine CW.cond_t rfl ?_
        refine CW.seq (fun K14 hK14 hE14 => ?_)
        refine CW.region ?_
        refine LR.v (Y.assign rfl rfl) (Wd.u rfl) rfl rfl ?_
        refine LR.nil ?_
        refine hK14 _ _ ?_
        refine CW.ret (hE12 .ret nofun (by simp) _ _ (hE11 .ret nofun _ _ (hE8 .ret nofun _ _ (hE7 .ret nofun (by simp) _ _ (hE5 .ret nofun _ _ (hret .ret (.inr rfl) _ _ _ (res1 rfl rfl) ?_))))))
        skip
        exact ⟨by first | rw [decide_eq_false (fun e => by obtain ⟨q1, q2, q3, q4⟩ := getc e i (by omega) (by omega); contradiction)] | (obtain rfl : i = l1.length := (by omega); rw [List.take_of_length_le (by simp), List.take_of_length_le (by simp; omega)] at ht; rw [decide_eq_true ht]), hm0⟩
      ·
        refine LH.take 12 (by kernel_rfl) rfl (by kernel_rfl) (by kernel_rfl) (by kernel_rfl) (fun Hq hq => Y.move rfl rfl) (Wd.g rfl rfl rfl) rfl rfl hqs ?_
        refine LH.take 13 (by kernel_rfl) rfl (by kernel_rfl) (by kernel_rfl) (by kernel_rfl) (fun Hq hq => Y.move rfl rfl) (Wd.g rfl rfl rfl) rfl rfl hqs ?_
        refine LH.e (g := fun ad => .pointer (some ad)) 14 (by kernel_rfl) rfl (by kernel_rfl) (by kernel_rfl) (by kernel_rfl) (Y.indexAddrF h1 (i) rfl Try.runUnderlying25 Try.sizeOf42 rfl rfl (by first | rfl | omega) (by first | omega | (simp; omega) | (simp; done))) (Wd.g rfl rfl rfl) rfl rfl hqs (fun ad31 pt31 => ?_)
        have bf_pt31 := bf_h1
        refine LH.take 15 (by kernel_rfl) rfl (by kernel_rfl) (by kernel_rfl) (by kernel_rfl) (fun Hq hq => Y.fieldAddr (pt31.pt.nw hq) rfl Try.runUnderlying42 rfl rfl Try.sizeOf22 (by decide) rfl) (Wd.g rfl rfl rfl) rfl rfl hqs ?_
        refine LH.take 16 (by kernel_rfl) rfl (by kernel_rfl) (by kernel_rfl) (by kernel_rfl) (fun Hq hq => Y.load1 ((pt31.pt.drop 1).nw hq) rfl Try.isAgg22 rfl) (Wd.g rfl rfl rfl) rfl rfl hqs ?_
        refine LH.take 17 (by kernel_rfl) rfl (by kernel_rfl) (by kernel_rfl) (by kernel_rfl) (fun Hq hq => Y.move rfl rfl) (Wd.g rfl rfl rfl) rfl rfl hqs ?_
        refine LH.take 18 (by kernel_rfl) rfl (by kernel_rfl) (by kernel_rfl) (by kernel_rfl) (fun Hq hq => Y.move rfl rfl) (Wd.g rfl rfl rfl) rfl rfl hqs ?_
        refine LH.e (g := fun ad => .pointer (some ad)) 19 (by kernel_rfl) rfl (by kernel_rfl) (by kernel_rfl) (by kernel_rfl) (Y.indexAddrF h2 (i) rfl Try.runUnderlying25 Try.sizeOf42 rfl rfl (by first | rfl | omega) (by first | omega | (simp; omega) | (simp; done))) (Wd.g rfl rfl rfl) rfl rfl hqs (fun ad36 pt36 => ?_)
        have bf_pt36 := bf_h2
        refine LH.take 20 (by kernel_rfl) rfl (by kernel_rfl) (by kernel_rfl) (by kernel_rfl) (fun Hq hq => Y.fieldAddr (pt36.pt.nw hq) rfl Try.runUnderlying42 rfl rfl Try.sizeOf22 (by decide) rfl) (Wd.g rfl rfl rfl) rfl rfl hqs ?_
        refine LH.take 21 (by kernel_rfl) rfl (by kernel_rfl) (by kernel_rfl) (by kernel_rfl) (fun Hq hq => Y.load1 ((pt36.pt.drop 1).nw hq) rfl Try.isAgg22 rfl) (Wd.g rfl rfl rfl) rfl rfl hqs ?_
        refine LH.one (i := 22) (by kernel_rfl) ?_
        -- call selvage/selvageref12.Same
        refine LO.call rfl rfl Try.call21 rfl (Wd.g rfl rfl rfl) rfl rfl (same3 _ _ l1[i].b l2[i].b w0 _ (hx1 l1[i] (List.getElem_mem (by omega))).b.any (hx2 l2[i] (List.getElem_mem (by omega))).b.any) (fun v39 H39 r39 => ?_)
        obtain ⟨rfl, hs39⟩ := r39
        replace h1 := h1.nw hs39
        replace h2 := h2.nw hs39
        replace hx1 := fun x hx_ => (hx1 x hx_).nw hs39
        replace hx2 := fun x hx_ => (hx2 x hx_).nw hs39
        replace pt19 := pt19.nw hs39
        replace pt24 := pt24.nw hs39
        replace pt31 := pt31.nw hs39
        replace pt36 := pt36.nw hs39
        replace hm0 := hm0.tr hs39
        replace hlm1 := hlm1.tr hs39
        have hz2 := hs39.size
        have hq39 := hqs.tr hs39
        refine ⟨.inr hq39, LH.narrow (SH2 := fun Hq => Nw H39 Hq) (fun Hq hq => hq39.tr hq) ?_⟩
        have hqn39 := Nw.refl H39
        refine LH.take 23 (by kernel_rfl) rfl (by kernel_rfl) (by kernel_rfl) (by kernel_rfl) (fun Hq hq => Y.notp rfl rfl) (Wd.g rfl rfl rfl) rfl rfl hqn39 ?_
        refine LH.take 24 (by kernel_rfl) rfl (by kernel_rfl) (by kernel_rfl) (by kernel_rfl) (fun Hq hq => Y.pick_f rfl rfl rfl) (Wd.u rfl) rfl rfl hqn39 ?_
        refine LH.take 25 (by kernel_rfl) rfl (by kernel_rfl) (by kernel_rfl) (by kernel_rfl) (fun Hq hq => Y.move rfl rfl) (Wd.u rfl) rfl rfl hqn39 ?_
        refine LH.splitp (d := 42) rfl (fun g42 => ?_) (fun g42 => ?_)
        ·
          refine LH.gs 26 (by kernel_rfl) rfl (by kernel_rfl) (by kernel_rfl) (by kernel_rfl) rfl rfl rfl rfl rfl rfl hqn39 ?_
          refine LH.gs 27 (by kernel_rfl) rfl (by kernel_rfl) (by kernel_rfl) (by kernel_rfl) rfl rfl rfl rfl rfl rfl hqn39 ?_
          refine LH.gs 28 (by kernel_rfl) rfl (by kernel_rfl) (by kernel_rfl) (by kernel_rfl) rfl rfl rfl rfl rfl rfl hqn39 ?_
          refine LH.gs 29 (by kernel_rfl) rfl (by kernel_rfl) (by kernel_rfl) (by kernel_rfl) rfl rfl rfl rfl rfl rfl hqn39 ?_
          refine LH.gs 30 (by kernel_rfl) rfl (by kernel_rfl) (by kernel_rfl) (by kernel_rfl) rfl rfl rfl rfl rfl rfl hqn39 ?_
          refine LH.gs 31 (by kernel_rfl) rfl (by kernel_rfl) (by kernel_rfl) (by kernel_rfl) rfl rfl rfl rfl rfl rfl hqn39 ?_
          refine LH.gs 32 (by kernel_rfl) rfl (by kernel_rfl) (by kernel_rfl) (by kernel_rfl) rfl rfl rfl rfl rfl rfl hqn39 ?_
          refine LH.gs 33 (by kernel_rfl) rfl (by kernel_rfl) (by kernel_rfl) (by kernel_rfl) rfl rfl rfl rfl rfl rfl hqn39 ?_
          refine LH.gs 34 (by kernel_rfl) rfl (by kernel_rfl) (by kernel_rfl) (by kernel_rfl) rfl rfl rfl rfl rfl rfl hqn39 ?_
          refine LH.gs 35 (by kernel_rfl) rfl (by kernel_rfl) (by kernel_rfl) (by kernel_rfl) rfl rfl rfl rfl rfl rfl hqn39 ?_
          refine LH.gs 36 (by kernel_rfl) rfl (by kernel_rfl) (by kernel_rfl) (by kernel_rfl) rfl rfl rfl rfl rfl rfl hqn39 ?_
          refine LH.gs 37 (by kernel_rfl) rfl (by kernel_rfl) (by kernel_rfl) (by kernel_rfl) rfl rfl rfl rfl rfl rfl hqn39 ?_
          refine LH.take 38 (by kernel_rfl) rfl (by kernel_rfl) (by kernel_rfl) (by kernel_rfl) (fun Hq hq => Y.pick_t rfl rfl rfl) (Wd.u rfl) rfl rfl hqn39 ?_
          refine LH.take 39 (by kernel_rfl) rfl (by kernel_rfl) (by kernel_rfl) (by kernel_rfl) (fun Hq hq => Y.move rfl rfl) (Wd.u rfl) rfl rfl hqn39 ?_
          refine LH.gs 40 (by kernel_rfl) rfl (by kernel_rfl) (by kernel_rfl) (by kernel_rfl) rfl rfl rfl rfl rfl rfl hqn39 ?_
          refine LH.gs 41 (by kernel_rfl) rfl (by kernel_rfl) (by kernel_rfl) (by kernel_rfl) rfl rfl rfl rfl rfl rfl hqn39 ?_
          refine LH.gs 42 (by kernel_rfl) rfl (by kernel_rfl) (by kernel_rfl) (by kernel_rfl) rfl rfl rfl rfl rfl rfl hqn39 ?_
          refine LH.gs 43 (by kernel_rfl) rfl (by kernel_rfl) (by kernel_rfl) (by kernel_rfl) rfl rfl rfl rfl rfl rfl hqn39 ?_
          refine LH.gs 44 (by kernel_rfl) rfl (by kernel_rfl) (by kernel_rfl) (by kernel_rfl) rfl rfl rfl rfl rfl rfl hqn39 ?_
          refine LH.gs 45 (by kernel_rfl) rfl (by kernel_rfl) (by kernel_rfl) (by kernel_rfl) rfl rfl rfl rfl rfl rfl hqn39 ?_
          refine LH.gs 46 (by kernel_rfl) rfl (by kernel_rfl) (by kernel_rfl) (by kernel_rfl) rfl rfl rfl rfl rfl rfl hqn39 ?_
          refine LH.gs 47 (by kernel_rfl) rfl (by kernel_rfl) (by kernel_rfl) (by kernel_rfl) rfl rfl rfl rfl rfl rfl hqn39 ?_
          refine LH.gs 48 (by kernel_rfl) rfl (by kernel_rfl) (by kernel_rfl) (by kernel_rfl) rfl rfl rfl rfl rfl rfl hqn39 ?_
          refine LH.gs 49 (by kernel_rfl) rfl (by kernel_rfl) (by kernel_rfl) (by kernel_rfl) rfl rfl rfl rfl rfl rfl hqn39 ?_
          refine LH.gs 50 (by kernel_rfl) rfl (by kernel_rfl) (by kernel_rfl) (by kernel_rfl) rfl rfl rfl rfl rfl rfl hqn39 ?_
          refine LH.gs 51 (by kernel_rfl) rfl (by kernel_rfl) (by kernel_rfl) (by kernel_rfl) rfl rfl rfl rfl rfl rfl hqn39 ?_
          refine LH.take 52 (by kernel_rfl) rfl (by kernel_rfl) (by kernel_rfl) (by kernel_rfl) (fun Hq hq => Y.pick_t rfl rfl rfl) (Wd.u rfl) rfl rfl hqn39 ?_
          refine LH.done (by kernel_rfl) ?_
          have hqe := hqn39
          refine hK13 _ _ ?_
          refine CW.cond_t rfl ?_
          refine CW.seq (fun K15 hK15 hE15 => ?_)
          refine CW.region ?_
          refine LR.v (Y.assign rfl rfl) (Wd.u rfl) rfl rfl ?_
          refine LR.nil ?_
          refine hK15 _ _ ?_
          refine CW.ret (hE12 .ret nofun (by simp) _ _ (hE11 .ret nofun _ _ (hE8 .ret nofun _ _ (hE7 .ret nofun (by simp) _ _ (hE5 .ret nofun _ _ (hret .ret (.inr rfl) _ _ _ (res1 rfl rfl) ?_))))))
          skip
          exact ⟨by first | rw [decide_eq_false (fun e => by obtain ⟨q1, q2, q3, q4⟩ := getc e i (by omega) (by omega); contradiction)] | (obtain rfl : i = l1.length := (by omega); rw [List.take_of_length_le (by simp), List.take_of_length_le (by simp; omega)] at ht; rw [decide_eq_true ht]), hm0⟩
        ·
          refine LH.take 26 (by kernel_rfl) rfl (by kernel_rfl) (by kernel_rfl) (by kernel_rfl) (fun Hq hq => Y.move rfl rfl) (Wd.g rfl rfl rfl) rfl rfl hqn39 ?_
          refine LH.take 27 (by kernel_rfl) rfl (by kernel_rfl) (by kernel_rfl) (by kernel_rfl) (fun Hq hq => Y.move rfl rfl) (Wd.g rfl rfl rfl) rfl rfl hqn39 ?_
          refine LH.e (g := fun ad => .pointer (some ad)) 28 (by kernel_rfl) rfl (by kernel_rfl) (by kernel_rfl) (by kernel_rfl) (Y.indexAddrF h1 (i) rfl Try.runUnderlying25 Try.sizeOf42 rfl rfl (by first | rfl | omega) (by first | omega | (simp; omega) | (simp; done))) (Wd.g rfl rfl rfl) rfl rfl hqn39 (fun ad45 pt45 => ?_)
          have bf_pt45 := bf_h1
          refine LH.take 29 (by kernel_rfl) rfl (by kernel_rfl) (by kernel_rfl) (by kernel_rfl) (fun Hq hq => Y.fieldAddr (pt45.pt.nw hq) rfl Try.runUnderlying42 rfl rfl Try.sizeOf22 (by decide) rfl) (Wd.g rfl rfl rfl) rfl rfl hqn39 ?_
          refine LH.take 30 (by kernel_rfl) rfl (by kernel_rfl) (by kernel_rfl) (by kernel_rfl) (fun Hq hq => Y.load1 ((pt45.pt.drop 2).nw hq) rfl Try.isAgg22 rfl) (Wd.g rfl rfl rfl) rfl rfl hqn39 ?_
          refine LH.take 31 (by kernel_rfl) rfl (by kernel_rfl) (by kernel_rfl) (by kernel_rfl) (fun Hq hq => Y.move rfl rfl) (Wd.g rfl rfl rfl) rfl rfl hqn39 ?_
          refine LH.take 32 (by kernel_rfl) rfl (by kernel_rfl) (by kernel_rfl) (by kernel_rfl) (fun Hq hq => Y.move rfl rfl) (Wd.g rfl rfl rfl) rfl rfl hqn39 ?_
          refine LH.e (g := fun ad => .pointer (some ad)) 33 (by kernel_rfl) rfl (by kernel_rfl) (by kernel_rfl) (by kernel_rfl) (Y.indexAddrF h2 (i) rfl Try.runUnderlying25 Try.sizeOf42 rfl rfl (by first | rfl | omega) (by first | omega | (simp; omega) | (simp; done))) (Wd.g rfl rfl rfl) rfl rfl hqn39 (fun ad50 pt50 => ?_)
          have bf_pt50 := bf_h2
          refine LH.take 34 (by kernel_rfl) rfl (by kernel_rfl) (by kernel_rfl) (by kernel_rfl) (fun Hq hq => Y.fieldAddr (pt50.pt.nw hq) rfl Try.runUnderlying42 rfl rfl Try.sizeOf22 (by decide) rfl) (Wd.g rfl rfl rfl) rfl rfl hqn39 ?_
          refine LH.take 35 (by kernel_rfl) rfl (by kernel_rfl) (by kernel_rfl) (by kernel_rfl) (fun Hq hq => Y.load1 ((pt50.pt.drop 2).nw hq) rfl Try.isAgg22 rfl) (Wd.g rfl rfl rfl) rfl rfl hqn39 ?_
          refine LH.one (i := 36) (by kernel_rfl) ?_
          -- call selvage/selvageref12.Same
          refine LO.call rfl rfl Try.call21 rfl (Wd.g rfl rfl rfl) rfl rfl (same3 _ _ l1[i].o l2[i].o w0 _ (hx1 l1[i] (List.getElem_mem (by omega))).o.any (hx2 l2[i] (List.getElem_mem (by omega))).o.any) (fun v53 H53 r53 => ?_)
          obtain ⟨rfl, hs53⟩ := r53
          replace h1 := h1.nw hs53
          replace h2 := h2.nw hs53
          replace hx1 := fun x hx_ => (hx1 x hx_).nw hs53
          replace hx2 := fun x hx_ => (hx2 x hx_).nw hs53
          replace pt19 := pt19.nw hs53
          replace pt24 := pt24.nw hs53
          replace pt31 := pt31.nw hs53
          replace pt36 := pt36.nw hs53
          replace pt45 := pt45.nw hs53
          replace pt50 := pt50.nw hs53
          replace hm0 := hm0.tr hs53
          replace hlm1 := hlm1.tr hs53
          have hz3 := hs53.size
          have hq53 := hqn39.tr hs53
          refine ⟨.inr hq53, LH.narrow (SH2 := fun Hq => Nw H53 Hq) (fun Hq hq => hq53.tr hq) ?_⟩
          have hqn53 := Nw.refl H53
          refine LH.take 37 (by kernel_rfl) rfl (by kernel_rfl) (by kernel_rfl) (by kernel_rfl) (fun Hq hq => Y.notp rfl rfl) (Wd.g rfl rfl rfl) rfl rfl hqn53 ?_
          refine LH.take 38 (by kernel_rfl) rfl (by kernel_rfl) (by kernel_rfl) (by kernel_rfl) (fun Hq hq => Y.pick_f rfl rfl rfl) (Wd.u rfl) rfl rfl hqn53 ?_
          refine LH.take 39 (by kernel_rfl) rfl (by kernel_rfl) (by kernel_rfl) (by kernel_rfl) (fun Hq hq => Y.move rfl rfl) (Wd.u rfl) rfl rfl hqn53 ?_
          refine LH.splitp (d := 56) rfl (fun g56 => ?_) (fun g56 => ?_)
          ·
            refine LH.gs 40 (by kernel_rfl) rfl (by kernel_rfl) (by kernel_rfl) (by kernel_rfl) rfl rfl rfl rfl rfl rfl hqn53 ?_
            refine LH.gs 41 (by kernel_rfl) rfl (by kernel_rfl) (by kernel_rfl) (by kernel_rfl) rfl rfl rfl rfl rfl rfl hqn53 ?_
            refine LH.gs 42 (by kernel_rfl) rfl (by kernel_rfl) (by kernel_rfl) (by kernel_rfl) rfl rfl rfl rfl rfl rfl hqn53 ?_
            refine LH.gs 43 (by kernel_rfl) rfl (by kernel_rfl) (by kernel_rfl) (by kernel_rfl) rfl rfl rfl rfl rfl rfl hqn53 ?_
            refine LH.gs 44 (by kernel_rfl) rfl (by kernel_rfl) (by kernel_rfl) (by kernel_rfl) rfl rfl rfl rfl rfl rfl hqn53 ?_
            refine LH.gs 45 (by kernel_rfl) rfl (by kernel_rfl) (by kernel_rfl) (by kernel_rfl) rfl rfl rfl rfl rfl rfl hqn53 ?_
            refine LH.gs 46 (by kernel_rfl) rfl (by kernel_rfl) (by kernel_rfl) (by kernel_rfl) rfl rfl rfl rfl rfl rfl hqn53 ?_
            refine LH.gs 47 (by kernel_rfl) rfl (by kernel_rfl) (by kernel_rfl) (by kernel_rfl) rfl rfl rfl rfl rfl rfl hqn53 ?_
            refine LH.gs 48 (by kernel_rfl) rfl (by kernel_rfl) (by kernel_rfl) (by kernel_rfl) rfl rfl rfl rfl rfl rfl hqn53 ?_
            refine LH.gs 49 (by kernel_rfl) rfl (by kernel_rfl) (by kernel_rfl) (by kernel_rfl) rfl rfl rfl rfl rfl rfl hqn53 ?_
            refine LH.gs 50 (by kernel_rfl) rfl (by kernel_rfl) (by kernel_rfl) (by kernel_rfl) rfl rfl rfl rfl rfl rfl hqn53 ?_
            refine LH.gs 51 (by kernel_rfl) rfl (by kernel_rfl) (by kernel_rfl) (by kernel_rfl) rfl rfl rfl rfl rfl rfl hqn53 ?_
            refine LH.take 52 (by kernel_rfl) rfl (by kernel_rfl) (by kernel_rfl) (by kernel_rfl) (fun Hq hq => Y.pick_t rfl rfl rfl) (Wd.u rfl) rfl rfl hqn53 ?_
            refine LH.done (by kernel_rfl) ?_
            have hqe := hqn53
            refine hK13 _ _ ?_
            refine CW.cond_t rfl ?_
            refine CW.seq (fun K16 hK16 hE16 => ?_)
            refine CW.region ?_
            refine LR.v (Y.assign rfl rfl) (Wd.u rfl) rfl rfl ?_
            refine LR.nil ?_
            refine hK16 _ _ ?_
            refine CW.ret (hE12 .ret nofun (by simp) _ _ (hE11 .ret nofun _ _ (hE8 .ret nofun _ _ (hE7 .ret nofun (by simp) _ _ (hE5 .ret nofun _ _ (hret .ret (.inr rfl) _ _ _ (res1 rfl rfl) ?_))))))
            skip
            exact ⟨by first | rw [decide_eq_false (fun e => by obtain ⟨q1, q2, q3, q4⟩ := getc e i (by omega) (by omega); contradiction)] | (obtain rfl : i = l1.length := (by omega); rw [List.take_of_length_le (by simp), List.take_of_length_le (by simp; omega)] at ht; rw [decide_eq_true ht]), hm0⟩
          ·
            refine LH.take 40 (by kernel_rfl) rfl (by kernel_rfl) (by kernel_rfl) (by kernel_rfl) (fun Hq hq => Y.move rfl rfl) (Wd.g rfl rfl rfl) rfl rfl hqn53 ?_
            refine LH.take 41 (by kernel_rfl) rfl (by kernel_rfl) (by kernel_rfl) (by kernel_rfl) (fun Hq hq => Y.move rfl rfl) (Wd.g rfl rfl rfl) rfl rfl hqn53 ?_
            refine LH.e (g := fun ad => .pointer (some ad)) 42 (by kernel_rfl) rfl (by kernel_rfl) (by kernel_rfl) (by kernel_rfl) (Y.indexAddrF h1 (i) rfl Try.runUnderlying25 Try.sizeOf42 rfl rfl (by first | rfl | omega) (by first | omega | (simp; omega) | (simp; done))) (Wd.g rfl rfl rfl) rfl rfl hqn53 (fun ad59 pt59 => ?_)
            have bf_pt59 := bf_h1
            refine LH.take 43 (by kernel_rfl) rfl (by kernel_rfl) (by kernel_rfl) (by kernel_rfl) (fun Hq hq => Y.fieldAddr (pt59.pt.nw hq) rfl Try.runUnderlying42 rfl rfl Try.sizeOf22 (by decide) rfl) (Wd.g rfl rfl rfl) rfl rfl hqn53 ?_
            refine LH.take 44 (by kernel_rfl) rfl (by kernel_rfl) (by kernel_rfl) (by kernel_rfl) (fun Hq hq => Y.load1 ((pt59.pt.drop 3).nw hq) rfl Try.isAgg22 rfl) (Wd.g rfl rfl rfl) rfl rfl hqn53 ?_
            refine LH.take 45 (by kernel_rfl) rfl (by kernel_rfl) (by kernel_rfl) (by kernel_rfl) (fun Hq hq => Y.move rfl rfl) (Wd.g rfl rfl rfl) rfl rfl hqn53 ?_
            refine LH.take 46 (by kernel_rfl) rfl (by kernel_rfl) (by kernel_rfl) (by kernel_rfl) (fun Hq hq => Y.move rfl rfl) (Wd.g rfl rfl rfl) rfl rfl hqn53 ?_
            refine LH.e (g := fun ad => .pointer (some ad)) 47 (by kernel_rfl) rfl (by kernel_rfl) (by kernel_rfl) (by kernel_rfl) (Y.indexAddrF h2 (i) rfl Try.runUnderlying25 Try.sizeOf42 rfl rfl (by first | rfl | omega) (by first | omega | (simp; omega) | (simp; done))) (Wd.g rfl rfl rfl) rfl rfl hqn53 (fun ad64 pt64 => ?_)
            have bf_pt64 := bf_h2
            refine LH.take 48 (by kernel_rfl) rfl (by kernel_rfl) (by kernel_rfl) (by kernel_rfl) (fun Hq hq => Y.fieldAddr (pt64.pt.nw hq) rfl Try.runUnderlying42 rfl rfl Try.sizeOf22 (by decide) rfl) (Wd.g rfl rfl rfl) rfl rfl hqn53 ?_
            refine LH.take 49 (by kernel_rfl) rfl (by kernel_rfl) (by kernel_rfl) (by kernel_rfl) (fun Hq hq => Y.load1 ((pt64.pt.drop 3).nw hq) rfl Try.isAgg22 rfl) (Wd.g rfl rfl rfl) rfl rfl hqn53 ?_
            refine LH.one (i := 50) (by kernel_rfl) ?_
            -- call selvage/selvageref12.Same
            refine LO.call rfl rfl Try.call21 rfl (Wd.g rfl rfl rfl) rfl rfl (same3 _ _ l1[i].t l2[i].t w0 _ (hx1 l1[i] (List.getElem_mem (by omega))).t.any (hx2 l2[i] (List.getElem_mem (by omega))).t.any) (fun v67 H67 r67 => ?_)
            obtain ⟨rfl, hs67⟩ := r67
            replace h1 := h1.nw hs67
            replace h2 := h2.nw hs67
            replace hx1 := fun x hx_ => (hx1 x hx_).nw hs67
            replace hx2 := fun x hx_ => (hx2 x hx_).nw hs67
            replace pt19 := pt19.nw hs67
            replace pt24 := pt24.nw hs67
            replace pt31 := pt31.nw hs67
            replace pt36 := pt36.nw hs67
            replace pt45 := pt45.nw hs67
            replace pt50 := pt50.nw hs67
            replace pt59 := pt59.nw hs67
            replace pt64 := pt64.nw hs67
            replace hm0 := hm0.tr hs67
            replace hlm1 := hlm1.tr hs67
            have hz4 := hs67.size
            have hq67 := hqn53.tr hs67
            refine ⟨.inr hq67, LH.narrow (SH2 := fun Hq => Nw H67 Hq) (fun Hq hq => hq67.tr hq) ?_⟩
            have hqn67 := Nw.refl H67
            refine LH.take 51 (by kernel_rfl) rfl (by kernel_rfl) (by kernel_rfl) (by kernel_rfl) (fun Hq hq => Y.notp rfl rfl) (Wd.g rfl rfl rfl) rfl rfl hqn67 ?_
            refine LH.take 52 (by kernel_rfl) rfl (by kernel_rfl) (by kernel_rfl) (by kernel_rfl) (fun Hq hq => Y.pick_f rfl rfl rfl) (Wd.u rfl) rfl rfl hqn67 ?_
            refine LH.done (by kernel_rfl) ?_
            have hqe := hqn67
            refine hK13 _ _ ?_
            refine CW.condp rfl (fun c69 => ?_) (fun c69 => ?_)
            ·
              refine CW.seq (fun K17 hK17 hE17 => ?_)
              refine CW.region ?_
              refine LR.v (Y.assign rfl rfl) (Wd.u rfl) rfl rfl ?_
              refine LR.nil ?_
              refine hK17 _ _ ?_
              refine CW.ret (hE12 .ret nofun (by simp) _ _ (hE11 .ret nofun _ _ (hE8 .ret nofun _ _ (hE7 .ret nofun (by simp) _ _ (hE5 .ret nofun _ _ (hret .ret (.inr rfl) _ _ _ (res1 rfl rfl) ?_))))))
              skip
              exact ⟨by first | rw [decide_eq_false (fun e => by obtain ⟨q1, q2, q3, q4⟩ := getc e i (by omega) (by omega); contradiction)] | (obtain rfl : i = l1.length := (by omega); rw [List.take_of_length_le (by simp), List.take_of_length_le (by simp; omega)] at ht; rw [decide_eq_true ht]), hm0⟩
            ·
              refine CW.skip ?_
              refine hK12 _ _ ?_
              refine hK11 _ _ ?_
              refine CW.region ?_
              refine LR.v (Y.move rfl rfl) (Wd.u rfl) rfl rfl ?_
              refine LR.v (Y.addi rfl rfl rfl (by omega)) (Wd.u rfl) rfl rfl ?_
              refine LR.v (Y.assign rfl rfl) (Wd.u rfl) rfl rfl ?_
              refine LR.nil ?_
              refine QN.sub (hN8 (i + 1) _ ?_ ?_) ⟨rfl, rfl, (iv (by omega)), trivial⟩
              · exact ⟨(by omega), take_ext ht (by simp; omega) (by simp; omega) (by simp only [List.getElem_map, Ck.c, Prod.mk.injEq]; refine ⟨?_, ?_, ?_, ?_⟩ <;> first | omega | (simp_all; done) | (apply Decidable.not_not.1; assumption)), hlm1⟩
              · first | omega | (simp only; omega) | (simp; omega)
    ·
      refine CW.exit (hE9 (.exit 0) nofun _ _ (hE8 (.exit 0) nofun _ _ (hX7 _ _ ?_)))
      refine hK5 _ _ ?_
      refine CW.seq (fun K18 hK18 hE18 => ?_)
      refine CW.region ?_
      refine LR.v (Y.assign rfl rfl) (Wd.u rfl) rfl rfl ?_
      refine LR.nil ?_
      refine hK18 _ _ ?_
      refine CW.ret (hret .ret (.inr rfl) _ _ _ (res1 rfl rfl) ?_)
      skip
      exact ⟨by first | rw [decide_eq_false (fun e => by obtain ⟨q1, q2, q3, q4⟩ := getc e i (by omega) (by omega); contradiction)] | (obtain rfl : i = l1.length := (by omega); rw [List.take_of_length_le (by simp), List.take_of_length_le (by simp; omega)] at ht; rw [decide_eq_true ht]), hm0⟩

theorem clash_ct (x : Ck) (w0 : World) (H0 : Heap)
     :
    Ct Try.prog w0 41 #[.agg (fK x).toArray] H0 (fun r H2 => r = .bool (decide (x.k = 4)) ∧ Nw H0 H2) := by
  refine Ct.enter (args := [.agg (fK x).toArray]) Try.func41 rfl rfl rfl ?_
  intro Q0 hret
  have hm0 : Nw H0 H0 := Mo.refl _ _
  refine CW.seq (fun K1 hK1 hE1 => ?_)
  refine CW.region ?_
  refine LR.z (Z.boxv rfl rfl) (Wd.u rfl) rfl rfl (fun v1 H1 r1 => ?_)
  obtain ⟨rfl, hc, hs1, ob1, hH1⟩ := r1
  have hzs1 : H1.size = H0.size + 1 := by rw [hH1]; simp
  have nx1 : Nx 0 H0.size (H0.size + 1) := Nx.new hm0.size
  replace hm0 := hm0.tr hs1
  have hz1 := hs1.size
  replace hc : Var 42 H1 H0.size (fK x) := hc
  refine LR.v (Y.assign rfl rfl) (Wd.u rfl) rfl rfl ?_
  refine LR.nil ?_
  refine hK1 _ _ ?_
  refine CW.seq (fun K2 hK2 hE2 => ?_)
  refine CW.region ?_
  refine LR.v (Y.fieldAddr hc.pt rfl Try.runUnderlying42 rfl rfl Try.sizeOf3 (by decide) rfl) (Wd.u rfl) rfl rfl ?_
  refine LR.v (Y.load1 hc.pt rfl Try.isAgg3 rfl) (Wd.u rfl) rfl rfl ?_
  refine LR.v (Y.eql rfl rfl rfl) (Wd.u rfl) rfl rfl ?_
  refine LR.v (Y.assign rfl rfl) (Wd.u rfl) rfl rfl ?_
  refine LR.nil ?_
  refine hK2 _ _ ?_
  refine CW.ret (hret .ret (.inr rfl) _ _ _ (res1 rfl rfl) ?_)
  exact ⟨rfl, hm0⟩

theorem indexC_ct (v vf : Value) (l : List Ck) (p : Ck → Bool) (w0 : World) (H0 : Heap)
    (hl : RdT H0 fK 4 v l) (hf : ∀ (x : Ck) (H : Heap), Clo Try.prog w0 vf [.agg (fK x).toArray] H (fun r H2 => r = .bool (p x) ∧ Nw H H2)) :
    Ct Try.prog w0 55 #[v, vf] H0 (fun r H2 => ∃ n : Int, r = .int .i64 n ∧ ((0 ≤ n ↔ l.any p = true) ∧ -1 ≤ n ∧ n ≤ 9223372036854775807) ∧ Nw H0 H2) := by
  refine Ct.enter (args := [v, vf]) Try.func55 rfl rfl rfl ?_
  intro Q0 hret
  have hm0 : Nw H0 H0 := Mo.refl _ _
  replace hl := hl.bnd
  have bf_hl := Rd.bf hl
  have hll := hl.len
  refine CW.seq (fun K1 hK1 hE1 => ?_)
  refine CW.region ?_
  refine LR.v (Y.assign rfl rfl) (Wd.u rfl) rfl rfl ?_
  refine LR.nil ?_
  refine hK1 _ _ ?_
  refine CW.seq (fun K2 hK2 hE2 => ?_)
  refine CW.seq (fun K3 hK3 hE3 => ?_)
  refine CW.region ?_
  refine LR.v (Y.move rfl rfl) (Wd.u rfl) rfl rfl ?_
  refine LR.v (Y.len hl rfl Try.runUnderlying25 rfl) (Wd.u rfl) rfl rfl ?_
  refine LR.v (Y.move rfl rfl) (Wd.u rfl) rfl rfl ?_
  refine LR.nil ?_
  refine hK3 _ _ ?_
  refine CW.block (fun K4 hK4 hX4 hE4 => ?_)
  refine CW.loop (fun (j : (Nat)) => [(0, v), (1, vf), (7, .int .i64 l.length), (8, .int .i64 j)])
    (fun (j : (Nat)) (H : Heap) => (j ≤ l.length) ∧ ((l.take j).any p = false) ∧ Nw H0 H)
    (fun (j : (Nat)) => l.length - j) 0 ⟨rfl, rfl, rfl, rfl, trivial⟩ ?_ ?_
  ·
    exact ⟨(by omega), rfl, Mo.refl _ _⟩
  intro j HL1 hI1 K5 hN5 hE5
  obtain ⟨hj, ha, hlm1⟩ := hI1
  replace hl := hl.nw hlm1
  replace hm0 := hm0.tr hlm1
  have hz1 := hlm1.size
  refine CW.seq (fun K6 hK6 hE6 => ?_)
  refine CW.region ?_
  refine LR.v (Y.lss rfl rfl rfl) (Wd.u rfl) rfl rfl ?_
  refine LR.nil ?_
  refine hK6 _ _ ?_
  refine CW.seq (fun K7 hK7 hE7 => ?_)
  refine CW.condp rfl (fun c9 => ?_) (fun c9 => ?_)
  ·
    refine CW.skip ?_
    refine hK7 _ _ ?_
    refine CW.seq (fun K8 hK8 hE8 => ?_)
    refine CW.block (fun K9 hK9 hX9 hE9 => ?_)
    refine CW.seq (fun K10 hK10 hE10 => ?_)
    refine CW.region ?_
    refine LR.v (Y.move rfl rfl) (Wd.u rfl) rfl rfl ?_
    refine LR.v (Y.assign rfl rfl) (Wd.u rfl) rfl rfl ?_
    refine LR.nil ?_
    refine hK10 _ _ ?_
    refine CW.seq (fun K11 hK11 hE11 => ?_)
    refine CW.region ?_
    refine LR.v (Y.move rfl rfl) (Wd.u rfl) rfl rfl ?_
    refine LR.v (Y.move rfl rfl) (Wd.u rfl) rfl rfl ?_
    refine LR.v (Y.move rfl rfl) (Wd.u rfl) rfl rfl ?_
    refine LR.e (g := fun ad => .pointer (some ad)) (Y.indexAddrF hl (j) rfl Try.runUnderlying25 Try.sizeOf42 rfl rfl (by first | rfl | omega) (by first | omega | (simp; omega) | (simp; done))) (Wd.u rfl) rfl rfl (fun ad14 pt14 => ?_)
    have bf_pt14 := bf_hl
    refine LR.v (Y.loadN pt14.pt rfl Try.isAgg42 Try.sizeOf42 (rfl) rfl) (Wd.u rfl) rfl rfl ?_
    refine LR.calld rfl rfl rfl (Wd.u rfl) rfl rfl (hf l[j] _) (fun v16 H16 r16 => ?_)
    obtain ⟨rfl, hs16⟩ := r16
    replace hl := hl.nw hs16
    replace pt14 := pt14.nw hs16
    replace hm0 := hm0.tr hs16
    replace hlm1 := hlm1.tr hs16
    have hz2 := hs16.size
    refine LR.nil ?_
    refine hK11 _ _ ?_
    refine CW.cond rfl (fun c16 => ?_) (fun c16 => ?_)
    ·
      refine CW.seq (fun K12 hK12 hE12 => ?_)
      refine CW.region ?_
      refine LR.v (Y.move rfl rfl) (Wd.u rfl) rfl rfl ?_
      refine LR.v (Y.assign rfl rfl) (Wd.u rfl) rfl rfl ?_
      refine LR.nil ?_
      refine hK12 _ _ ?_
      refine CW.ret (hE9 .ret nofun (by simp) _ _ (hE8 .ret nofun _ _ (hE5 .ret nofun _ _ (hE4 .ret nofun (by simp) _ _ (hE2 .ret nofun _ _ (hret .ret (.inr rfl) _ _ _ (res1 rfl rfl) ?_))))))
      exact ⟨j, rfl, ⟨⟨fun _ => any_at (j := j) (by omega) (by simpa using c16), fun _ => by omega⟩, by omega, by omega⟩, hm0⟩
    ·
      refine CW.skip ?_
      refine hK9 _ _ ?_
      refine hK8 _ _ ?_
      refine CW.region ?_
      refine LR.v (Y.addi rfl rfl rfl (by omega)) (Wd.u rfl) rfl rfl ?_
      refine LR.v (Y.move rfl rfl) (Wd.u rfl) rfl rfl ?_
      refine LR.nil ?_
      refine QN.sub (hN5 (j + 1) _ ?_ ?_) ⟨rfl, rfl, (iv (by omega)), (iv (by omega)), trivial⟩
      · exact ⟨(by omega), any_take ha (by omega) (by simpa using c16), hlm1⟩
      · first | omega | (simp only; omega) | (simp; omega)
  ·
    refine CW.exit (hE7 (.exit 0) nofun _ _ (hE5 (.exit 0) nofun _ _ (hX4 _ _ ?_)))
    refine hK2 _ _ ?_
    refine CW.seq (fun K13 hK13 hE13 => ?_)
    refine CW.region ?_
    refine LR.v (Y.assign rfl rfl) (Wd.u rfl) rfl rfl ?_
    refine LR.nil ?_
    refine hK13 _ _ ?_
    refine CW.ret (hret .ret (.inr rfl) _ _ _ (res1 rfl rfl) ?_)
    exact ⟨-1, rfl, ⟨⟨fun h => by omega, fun h => by rw [List.take_of_length_le (by omega), h] at ha; cases ha⟩, by omega, by omega⟩, hm0⟩

theorem containsC_ct (v vf : Value) (l : List Ck) (p : Ck → Bool) (w0 : World) (H0 : Heap)
    (hl : RdT H0 fK 4 v l) (hf : ∀ (x : Ck) (H : Heap), Clo Try.prog w0 vf [.agg (fK x).toArray] H (fun r H2 => r = .bool (p x) ∧ Nw H H2)) :
    Ct Try.prog w0 40 #[v, vf] H0 (fun r H2 => r = .bool (l.any p) ∧ Nw H0 H2) := by
  refine Ct.enter (args := [v, vf]) Try.func40 rfl rfl rfl ?_
  intro Q0 hret
  have hm0 : Nw H0 H0 := Mo.refl _ _
  replace hl := hl.bnd
  have bf_hl := Rd.bf hl
  have hll := hl.len
  refine CW.seq (fun K1 hK1 hE1 => ?_)
  refine CW.region ?_
  refine LR.v (Y.assign rfl rfl) (Wd.u rfl) rfl rfl ?_
  refine LR.nil ?_
  refine hK1 _ _ ?_
  refine CW.seq (fun K2 hK2 hE2 => ?_)
  refine CW.region ?_
  refine LR.v (Y.move rfl rfl) (Wd.u rfl) rfl rfl ?_
  refine LR.v (Y.move rfl rfl) (Wd.u rfl) rfl rfl ?_
  -- call slices.IndexFunc[[]selvage/api.Chunk,selvage/api.Chunk]
  refine LR.call rfl Try.call55 rfl (Wd.u rfl) rfl rfl (indexC_ct _ vf l p w0 _ hl.any hf) (fun v7 H7 r7 => ?_)
  obtain ⟨n7, rfl, hn7, hs7⟩ := r7
  replace hl := hl.nw hs7
  replace hm0 := hm0.tr hs7
  have hz1 := hs7.size
  refine LR.v (Y.geq rfl rfl rfl) (Wd.u rfl) rfl rfl ?_
  refine LR.v (Y.assign rfl rfl) (Wd.u rfl) rfl rfl ?_
  refine LR.nil ?_
  refine hK2 _ _ ?_
  refine CW.ret (hret .ret (.inr rfl) _ _ _ (res1 rfl rfl) ?_)
  exact ⟨by cases hp : l.any p with | true => (rw [decide_eq_true (hn7.1.2 hp)]) | false => (rw [decide_eq_false (fun h => by rw [hn7.1.1 h] at hp; cases hp)]), hm0⟩

end Go.Proofs.Ytadgeooceeilpaa.MerG
