/-
  The contracts of the document that carries out a script, and of LinesApplies and LinesBack.
-/
import Derived.Test.YtkofoccjnoenlaaLinI
namespace Go.Proofs.Ytkofoccjnoenlaa.LinJ
open Go.Proofs.Ytkofoccjnoenlaa.E Go.RowKit Go.Proofs.Ytkofoccjnoenlaa.LinM Go.Proofs.Ytkofoccjnoenlaa.LinA Go.Proofs.Ytkofoccjnoenlaa.LinB Go.Proofs.Ytkofoccjnoenlaa.LinC Go.Proofs.Ytkofoccjnoenlaa.LinD Go.Proofs.Ytkofoccjnoenlaa.LinE Go.Proofs.Ytkofoccjnoenlaa.LinF Go.Proofs.Ytkofoccjnoenlaa.LinG Go.Proofs.Ytkofoccjnoenlaa.LinI
set_option linter.unusedVariables false
set_option linter.unusedSimpArgs false
set_option linter.unusedSectionVars false
theorem inf22 : Inf Try.prog 22 9 1 16 := ⟨Try.underlying22, _, _, rfl, rfl, rfl, rfl, rfl⟩

section
variable {α : Type} [DecidableEq α]
theorem W_rep0 : ∀ (N : Nat) (x y : List α) (r : List Int), W x y = List.replicate N 0 ++ r → N ≤ x.length ∧ N ≤ y.length ∧ x.take N = y.take N ∧ r = W (x.drop N) (y.drop N)
  | 0, x, y, r, h => by simpa using h.symm
  | N + 1, x, y, r, h => by
    rw [List.replicate_succ, List.cons_append] at h
    obtain ⟨z, xs, ys, rfl, rfl, h3⟩ := W_eq0 h
    obtain ⟨h4, h5, h6, h7⟩ := W_rep0 N xs ys r h3.symm
    exact ⟨by simp; omega, by simp; omega, by simp [h6], by simpa using h7⟩
theorem W_rep1 : ∀ (N : Nat) (x y : List α) (r : List Int), W x y = List.replicate N 1 ++ r → N ≤ x.length ∧ r = W (x.drop N) y
  | 0, x, y, r, h => by simpa using h.symm
  | N + 1, x, y, r, h => by
    rw [List.replicate_succ, List.cons_append] at h
    obtain ⟨z, xs, rfl, _, h3⟩ := W_eq1 h
    obtain ⟨h4, h5⟩ := W_rep1 N xs y r h3.symm
    exact ⟨by simp; omega, by simpa using h5⟩
theorem W_rep2 : ∀ (N : Nat) (x y : List α) (r : List Int), W x y = List.replicate N 2 ++ r → N ≤ y.length ∧ r = W x (y.drop N)
  | 0, x, y, r, h => by simpa using h.symm
  | N + 1, x, y, r, h => by
    rw [List.replicate_succ, List.cons_append] at h
    obtain ⟨z, ys, rfl, _, h3⟩ := W_eq2 h
    obtain ⟨h4, h5⟩ := W_rep2 N x ys r h3.symm
    exact ⟨by simp; omega, by simpa using h5⟩
/-- no two steps of one kind beside one another -/
def alt : Int → List (Int × Int) → Prop
  | _, [] => True
  | p, e :: es => p ≠ e.1 ∧ alt e.1 es
def lastOp (p : Int) (es : List (Int × Int)) : Int := es.foldl (fun _ e => e.1) p
theorem alt_snoc (e : Int × Int) : ∀ (es : List (Int × Int)) (p : Int), alt p (es ++ [e]) ↔ alt p es ∧ lastOp p es ≠ e.1
  | [], p => by simp [alt, lastOp]
  | f :: es, p => by
    have := alt_snoc e es f.1
    simp only [List.cons_append, alt, this, lastOp, List.foldl_cons, and_assoc]
theorem alt_addE (es : List (Int × Int)) (p op : Int) (h : alt p es) (hp : p ≠ op) : alt p (addE es op) := by
  rcases List.eq_nil_or_concat es with rfl | ⟨es', ⟨o, n⟩, rfl⟩
  · simp [addE, alt, hp]
  · rw [List.concat_eq_append] at h ⊢
    rw [addE_concat]
    rw [alt_snoc] at h
    split
    · rename_i e; subst e; rw [alt_snoc]; exact h
    · rename_i hne
      rw [alt_snoc, alt_snoc]
      exact ⟨h, by simp [lastOp]; exact hne⟩
theorem alt_runs (p : Int) (ops : List Int) (h : ∀ o ∈ ops, p ≠ o) : alt p (runs ops) := by
  have : ∀ (ops : List Int) (es : List (Int × Int)), (∀ o ∈ ops, p ≠ o) → alt p es → alt p (ops.foldl addE es) := by
    intro ops
    induction ops with
    | nil => intro es _ h; exact h
    | cons o ops ih => intro es h1 h2; rw [List.foldl_cons]; exact ih _ (fun o ho => h1 o (by simp [ho])) (alt_addE es p o h2 (h1 o (by simp)))
  exact this ops [] h trivial
/-- the lines that a script inserts -/
def addd : List (Int × Int) → List α → List α
  | [], _ => []
  | e :: es, b => (if e.1 = 2 then b.take e.2.toNat else []) ++ addd es (if e.1 ≠ 1 then b.drop e.2.toNat else b)
theorem addd_len : ∀ (es : List (Int × Int)) (b : List α), (addd es b).length ≤ b.length
  | [], b => by simp [addd]
  | e :: es, b => by
    rw [addd]
    split
    · rename_i h
      rw [if_pos (by omega)]
      have := addd_len es (b.drop e.2.toNat)
      simp at this ⊢; omega
    · split
      · have := addd_len es (b.drop e.2.toNat)
        simp at this ⊢; omega
      · have := addd_len es b
        simpa using this
theorem app_back : ∀ (es : List (Int × Int)) (a b out : List α) (p : Int), flat es = W a b → (∀ e ∈ es, 1 ≤ e.2 ∧ (e.1 = 0 ∨ e.1 = 1 ∨ e.1 = 2)) → alt p es → app es p a (addd es b) out = (out ++ b, 0)
  | [], a, b, out, p, h, _, _ => by
    obtain ⟨rfl, rfl⟩ := W_eq_nil h.symm
    simp [app, addd]
  | e :: es, a, b, out, p, h, hp, ha => by
    obtain ⟨h1, h2⟩ := hp e (by simp)
    obtain ⟨a1, a2⟩ := ha
    have hf : W a b = List.replicate e.2.toNat e.1 ++ flat es := by rw [← h]; rfl
    have hp' : ∀ e ∈ es, 1 ≤ e.2 ∧ (e.1 = 0 ∨ e.1 = 1 ∨ e.1 = 2) := fun f hf => hp f (by simp [hf])
    rw [app, if_neg (by omega), if_neg (by omega), if_neg a1, addd]
    rcases h2 with h2 | h2 | h2
    · rw [h2] at hf a2 ⊢
      obtain ⟨g1, g2, g3, g4⟩ := W_rep0 _ _ _ _ hf
      rw [if_neg (by omega), if_neg (by omega), if_pos rfl, if_neg (by omega), if_pos (by omega), List.nil_append, app_back es _ _ _ _ g4 hp' a2, g3, List.append_assoc, List.take_append_drop]
    · rw [h2] at hf a2 ⊢
      obtain ⟨g1, g4⟩ := W_rep1 _ _ _ _ hf
      rw [if_neg (by omega), if_neg (by omega), if_neg (by omega), if_neg (by omega), if_neg (by omega), List.nil_append, app_back es _ _ _ _ g4 hp' a2]
    · rw [h2] at hf a2 ⊢
      obtain ⟨g1, g4⟩ := W_rep2 _ _ _ _ hf
      have hl : (b.take e.2.toNat).length = e.2.toNat := by simp; omega
      rw [if_pos rfl, if_pos rfl, if_pos (show (2 : Int) ≠ 1 by decide), if_neg (by rw [List.length_append, hl]; omega), List.drop_left' hl, List.take_left' hl, app_back es _ _ _ _ g4 hp' a2, List.append_assoc, List.take_append_drop]
end
theorem take_of_drop {α : Type} (l : List α) (k n : Nat) : (l.take (k + n)).drop k = (l.drop k).take n := by rw [List.take_drop]

set_option maxHeartbeats 2000000 in
theorem rapply_ct (va ve vd : Value) (a : List (List UInt8)) (es : List (Int × Int)) (add : List (List UInt8)) (w0 : World) (H0 : Heap)
    (ha : RdT H0 fS 1 va a) (he : RdT H0 fE 2 ve es) (hd : RdT H0 fS 1 vd add) (hla : a.length + add.length ≤ 1048576) :
    Ct Try.prog w0 24 #[va, ve, vd] H0 (fun r H2 => ∃ v, r = .tuple #[v, .int .i64 (app es (-1) a add []).2] ∧ RdT H2 fS 1 v (app es (-1) a add []).1 ∧ Nw H0 H2) := by
  refine Ct.enter (args := [va, ve, vd]) Try.func24 rfl rfl rfl ?_
  intro Q0 hret
  replace ha := ha.lt
  replace he := he.lt
  replace hd := hd.lt
  have hel := he.len
  refine CW.seq (fun K1 hK1 hE1 => ?_)
  refine CW.region ?_
  refine LR.v (Y.assign rfl rfl) (Wd.u rfl) rfl rfl ?_
  refine LR.v (Y.assign rfl rfl) (Wd.u rfl) rfl rfl ?_
  refine LR.nil ?_
  refine hK1 _ _ ?_
  refine CW.seq (fun K2 hK2 hE2 => ?_)
  refine CW.region ?_
  refine LR.v (Y.assign rfl rfl) (Wd.u rfl) rfl rfl ?_
  refine LR.nil ?_
  refine hK2 _ _ ?_
  refine CW.seq (fun K3 hK3 hE3 => ?_)
  refine CW.region ?_
  refine LR.v (Y.assign rfl rfl) (Wd.u rfl) rfl rfl ?_
  refine LR.v (Y.assign rfl rfl) (Wd.u rfl) rfl rfl ?_
  refine LR.nil ?_
  refine hK3 _ _ ?_
  refine CW.seq (fun K4 hK4 hE4 => ?_)
  refine CW.seq (fun K5 hK5 hE5 => ?_)
  refine CW.region ?_
  refine LR.v (Y.assign rfl rfl) (Wd.u rfl) rfl rfl ?_
  refine LR.nil ?_
  refine hK5 _ _ ?_
  refine CW.block (fun K6 hK6 hX6 hE6 => ?_)
  refine CW.loop (fun (s : (Nat) × (Int) × (Nat) × (Nat) × (Value) × (List (List UInt8))) => match s with | (n, p, i, k, vo, out) => [(0, va), (1, ve), (2, vd), (6, .slice none 0 0), (7, .int .i64 0), (8, vo), (9, .int .i64 i), (10, .int .i64 k), (11, .int .i64 n)])
    (fun (s : (Nat) × (Int) × (Nat) × (Nat) × (Value) × (List (List UInt8))) (H : Heap) => match s with | (n, p, i, k, vo, out) => n ≤ es.length ∧ i ≤ a.length ∧ k ≤ add.length ∧ Nw H0 H ∧ Own (fun b => H0.size ≤ b) 9 H fS 1 vo out ∧ out.length ≤ i + k ∧ (n = 0 → p = -1) ∧ (∀ h : n - 1 < es.length, 0 < n → p = es[n - 1].1) ∧ app (es.drop n) p (a.drop i) (add.drop k) out = app es (-1) a add [])
    (fun (s : (Nat) × (Int) × (Nat) × (Nat) × (Value) × (List (List UInt8))) => match s with | (n, p, i, k, vo, out) => es.length - n) (0, -1, 0, 0, .slice none 0 0, []) ⟨rfl, rfl, rfl, rfl, rfl, rfl, rfl, rfl, rfl, trivial⟩ ?_ ?_
  ·
    exact ⟨by omega, by omega, by omega, Nw.refl _, Own.nil fS_len fS_one, by simp, fun _ => rfl, fun _ h => absurd h (by omega), rfl⟩
  rintro ⟨n, p, i, k, vo, out⟩ H1 hI1 K7 hN7 hE7
  obtain ⟨hn, hi, hk, hs, ho, hl, hp0, hp, happ⟩ := hI1
  have hzz := hs.size
  have ha2 := ha.nw hs
  have he2 := he.nw hs
  have hd2 := hd.nw hs
  -- WARN live slots not in fl: [68, 69, 70, 71, 76, 73, 75, 74, 72, 51, 52, 53, 56, 57, 58]
  refine CW.seq (fun K8 hK8 hE8 => ?_)
  refine CW.seq (fun K9 hK9 hE9 => ?_)
  refine CW.region ?_
  refine LR.v (Y.move rfl rfl) (Wd.u rfl) rfl rfl ?_
  refine LR.v (Y.move rfl rfl) (Wd.u rfl) rfl rfl ?_
  refine LR.v (Y.len he2 rfl Try.runUnderlying25 rfl) (Wd.u rfl) rfl rfl ?_
  refine LR.v (Y.lss rfl rfl rfl) (Wd.u rfl) rfl rfl ?_
  refine LR.nil ?_
  refine hK9 _ _ ?_
  refine CW.condp rfl (fun c16 => ?_) (fun c16 => ?_)
  ·
    refine CW.skip ?_
    refine hK8 _ _ ?_
    refine CW.seq (fun K10 hK10 hE10 => ?_)
    refine CW.block (fun K11 hK11 hX11 hE11 => ?_)
    refine CW.seq (fun K12 hK12 hE12 => ?_)
    refine CW.region ?_
    refine LR.v (Y.move rfl rfl) (Wd.u rfl) rfl rfl ?_
    refine LR.v (Y.move rfl rfl) (Wd.u rfl) rfl rfl ?_
    refine LR.e (g := fun ad => .pointer (some ad)) (Y.indexAddr he2 (n) rfl Try.runUnderlying25 Try.sizeOf36 rfl rfl (by first | rfl | omega) (by omega)) (Wd.u rfl) rfl rfl (fun ad21 pt21 => ?_)
    refine LR.v (Y.loadN pt21 rfl Try.isAgg36 Try.sizeOf36 rfl rfl) (Wd.u rfl) rfl rfl ?_
    rw [app_cons es n (by omega)] at happ
    replace ho := ho.imp (G' := fun b => H0.size ≤ b ∧ b < H1.size) (fun b hb e => ⟨e, hb⟩)
    refine LR.z (Z.allocv rfl Try.zeroValue36) (Wd.u rfl) rfl rfl (fun v12 H12 r12 => ?_)
    obtain ⟨rfl, va12, hs12, ob12, hH12⟩ := r12
    replace he2 := he2.nw hs12
    replace ha2 := ha2.nw hs12
    replace hd2 := hd2.nw hs12
    replace ho := ho.nw hs12
    replace hs := hs.tr hs12
    have hz12 : H12.size = H1.size + 1 := by rw [hH12]; simp
    refine LR.s (S.var va12 (fE es[n]) (fE es[n]) rfl rfl rfl rfl (fE_oneb _) Try.sizeOf36 rfl (Nat.le_of_ble_eq_true rfl) (rfl)) (Wd.u rfl) rfl (fun H6_5 r6_5 => ?_)
    obtain ⟨va12, hsx⟩ := r6_5
    have hsz := hsx.size
    replace he2 := he2.up hsx (fun b _ h1 h2 => by omega)
    replace ha2 := ha2.up hsx (fun b _ h1 h2 => by omega)
    replace hd2 := hd2.up hsx (fun b _ h1 h2 => by omega)
    replace ho := ho.up hsx (fun b _ h1 h2 => by omega)
    replace hs := hs.trans hsx (fun _ _ e => e) (fun b hb e => by omega)
    refine LR.nil ?_
    refine hK12 _ _ ?_
    refine CW.block (fun K13 hK13 hX13 hE13 => ?_)
    refine CW.cut (fun (_ : Unit) => [(0, va), (1, ve), (2, vd), (6, .slice none 0 0), (7, .int .i64 0), (8, vo), (9, .int .i64 i), (10, .int .i64 k), (11, .int .i64 n), (12, .pointer (some ⟨H1.size, 0, none⟩)), (46, .bool (decide (es[n].1 ≠ 0 ∧ es[n].1 ≠ 1 ∧ es[n].1 ≠ 2)))])
      (fun (_ : Unit) (H : Heap) => H = H6_5) (fun K14 hK14 hE14 => ?_) ?_
    ·
      refine CW.region ?_
      refine LR.v (Y.fieldAddr va12.pt rfl Try.runUnderlying36 rfl rfl Try.sizeOf3 (by decide) rfl) (Wd.u rfl) rfl rfl ?_
      refine LR.v (Y.load1 va12.pt rfl Try.isAgg3 rfl) (Wd.u rfl) rfl rfl ?_
      refine LR.v (Y.neq rfl rfl rfl) (Wd.u rfl) rfl rfl ?_
      refine LR.v (Y.move rfl rfl) (Wd.u rfl) rfl rfl ?_
      refine LR.splitp (d := 50) rfl (fun g50 => ?_) (fun g50 => ?_)
      ·
        refine LR.v (Y.fieldAddr va12.pt rfl Try.runUnderlying36 rfl rfl Try.sizeOf3 (by decide) rfl) (Wd.g rfl rfl rfl) rfl rfl ?_
        refine LR.v (Y.load1 va12.pt rfl Try.isAgg3 rfl) (Wd.g rfl rfl rfl) rfl rfl ?_
        refine LR.v (Y.neq rfl rfl rfl) (Wd.g rfl rfl rfl) rfl rfl ?_
        refine LR.v (Y.pick_t rfl rfl rfl) (Wd.u rfl) rfl rfl ?_
        refine LR.v (Y.move rfl rfl) (Wd.u rfl) rfl rfl ?_
        refine LR.splitp (d := 55) rfl (fun g55 => ?_) (fun g55 => ?_)
        ·
          refine LR.v (Y.fieldAddr va12.pt rfl Try.runUnderlying36 rfl rfl Try.sizeOf3 (by decide) rfl) (Wd.g rfl rfl rfl) rfl rfl ?_
          refine LR.v (Y.load1 va12.pt rfl Try.isAgg3 rfl) (Wd.g rfl rfl rfl) rfl rfl ?_
          refine LR.v (Y.neq rfl rfl rfl) (Wd.g rfl rfl rfl) rfl rfl ?_
          refine LR.v (Y.pick_t rfl rfl rfl) (Wd.u rfl) rfl rfl ?_
          refine LR.v (Y.assign rfl rfl) (Wd.u rfl) rfl rfl ?_
          refine LR.nil ?_
          refine QN.sub (hK14 () _ ?_) ⟨rfl, rfl, rfl, rfl, (iv (by omega)), rfl, (iv (by omega)), (iv (by omega)), (iv (by omega)), rfl, (by first | exact congrArg some (bF (by omega)) | exact congrArg some (bdec (by omega))), trivial⟩
          rfl
        ·
          refine LR.gs rfl rfl rfl rfl rfl rfl ?_
          refine LR.gs rfl rfl rfl rfl rfl rfl ?_
          refine LR.gs rfl rfl rfl rfl rfl rfl ?_
          refine LR.v (Y.pick_f rfl rfl rfl) (Wd.u rfl) rfl rfl ?_
          refine LR.v (Y.assign rfl rfl) (Wd.u rfl) rfl rfl ?_
          refine LR.nil ?_
          refine QN.sub (hK14 () _ ?_) ⟨rfl, rfl, rfl, rfl, (iv (by omega)), rfl, (iv (by omega)), (iv (by omega)), (iv (by omega)), rfl, (by first | exact congrArg some (bF (by omega)) | exact congrArg some (bdec (by omega))), trivial⟩
          rfl
      ·
        refine LR.gs rfl rfl rfl rfl rfl rfl ?_
        refine LR.gs rfl rfl rfl rfl rfl rfl ?_
        refine LR.gs rfl rfl rfl rfl rfl rfl ?_
        refine LR.v (Y.pick_f rfl rfl rfl) (Wd.u rfl) rfl rfl ?_
        refine LR.v (Y.move rfl rfl) (Wd.u rfl) rfl rfl ?_
        refine LR.gs rfl rfl rfl rfl rfl rfl ?_
        refine LR.gs rfl rfl rfl rfl rfl rfl ?_
        refine LR.gs rfl rfl rfl rfl rfl rfl ?_
        refine LR.v (Y.pick_f rfl rfl rfl) (Wd.u rfl) rfl rfl ?_
        refine LR.v (Y.assign rfl rfl) (Wd.u rfl) rfl rfl ?_
        refine LR.nil ?_
        refine QN.sub (hK14 () _ ?_) ⟨rfl, rfl, rfl, rfl, (iv (by omega)), rfl, (iv (by omega)), (iv (by omega)), (iv (by omega)), rfl, (by first | exact congrArg some (bF (by omega)) | exact congrArg some (bdec (by omega))), trivial⟩
        rfl
    ·
      intro _ Hcutr12 hIcutr12
      obtain rfl := hIcutr12
      refine CW.condp rfl (fun c46 => ?_) (fun c46 => ?_)
      ·
        refine CW.seq (fun K15 hK15 hE15 => ?_)
        refine CW.region ?_
        refine LR.v (Y.assign rfl rfl) (Wd.u rfl) rfl rfl ?_
        refine LR.v (Y.assign rfl rfl) (Wd.u rfl) rfl rfl ?_
        refine LR.nil ?_
        refine hK15 _ _ ?_
        refine CW.ret (hE13 .ret nofun (by simp) _ _ (hE11 .ret nofun (by simp) _ _ (hE10 .ret nofun _ _ (hE7 .ret nofun _ _ (hE6 .ret nofun (by simp) _ _ (hE4 .ret nofun _ _ (hret .ret (.inr rfl) _ _ _ (res2 rfl rfl rfl) ?_)))))))
        have e : app (es[n] :: es.drop (n + 1)) p (a.drop i) (add.drop k) out = ([], 3) := by rw [app]; simp only [List.length_drop]; (repeat' split) <;> first | rfl | (exfalso; omega)
        rw [e] at happ
        rw [← happ]
        exact ⟨_, rfl, Rd.nil _ _ _ _, hs⟩
      ·
        refine CW.seq (fun K16 hK16 hE16 => ?_)
        refine CW.region ?_
        refine LR.v (Y.fieldAddr va12.pt rfl Try.runUnderlying36 rfl rfl Try.sizeOf3 (by decide) rfl) (Wd.u rfl) rfl rfl ?_
        refine LR.v (Y.load1 (va12.pt.drop 1) rfl Try.isAgg3 rfl) (Wd.u rfl) rfl rfl ?_
        refine LR.v (Y.lss rfl rfl rfl) (Wd.u rfl) rfl rfl ?_
        refine LR.v (Y.assign rfl rfl) (Wd.u rfl) rfl rfl ?_
        refine LR.nil ?_
        refine hK16 _ _ ?_
        refine CW.condp rfl (fun c60 => ?_) (fun c60 => ?_)
        ·
          refine CW.seq (fun K17 hK17 hE17 => ?_)
          refine CW.region ?_
          refine LR.v (Y.assign rfl rfl) (Wd.u rfl) rfl rfl ?_
          refine LR.v (Y.assign rfl rfl) (Wd.u rfl) rfl rfl ?_
          refine LR.nil ?_
          refine hK17 _ _ ?_
          refine CW.ret (hE13 .ret nofun (by simp) _ _ (hE11 .ret nofun (by simp) _ _ (hE10 .ret nofun _ _ (hE7 .ret nofun _ _ (hE6 .ret nofun (by simp) _ _ (hE4 .ret nofun _ _ (hret .ret (.inr rfl) _ _ _ (res2 rfl rfl rfl) ?_)))))))
          have e : app (es[n] :: es.drop (n + 1)) p (a.drop i) (add.drop k) out = ([], 1) := by rw [app]; simp only [List.length_drop]; (repeat' split) <;> first | rfl | (exfalso; omega)
          rw [e] at happ
          rw [← happ]
          exact ⟨_, rfl, Rd.nil _ _ _ _, hs⟩
        ·
          refine CW.cut (fun (_ : Unit) => [(0, va), (1, ve), (2, vd), (6, .slice none 0 0), (7, .int .i64 0), (8, vo), (9, .int .i64 i), (10, .int .i64 k), (11, .int .i64 n), (12, .pointer (some ⟨H1.size, 0, none⟩)), (64, .bool (decide (p = es[n].1)))])
            (fun (_ : Unit) (H : Heap) => H = Hcutr12) (fun K18 hK18 hE18 => ?_) ?_
          ·
            refine CW.region_draw rfl (by kernel_rfl) ?_
            refine LR.v (Y.move rfl rfl) (Wd.u rfl) rfl rfl ?_
            refine LR.v (Y.gtr rfl rfl rfl) (Wd.u rfl) rfl rfl ?_
            refine LR.v (Y.move rfl rfl) (Wd.u rfl) rfl rfl ?_
            refine LR.splitp (d := 67) rfl (fun g67 => ?_) (fun g67 => ?_)
            ·
              refine LR.v (Y.move rfl rfl) (Wd.g rfl rfl rfl) rfl rfl ?_
              refine LR.v (Y.move rfl rfl) (Wd.g rfl rfl rfl) rfl rfl ?_
              refine LR.v (Y.subi rfl rfl rfl (by omega)) (Wd.g rfl rfl rfl) rfl rfl ?_
              refine LR.e (g := fun ad => .pointer (some ad)) (Y.indexAddr he2 (n - 1) rfl Try.runUnderlying25 Try.sizeOf36 rfl rfl (by omega) (by omega)) (Wd.g rfl rfl rfl) rfl rfl (fun ad71 pt71 => ?_)
              refine LR.v (Y.fieldAddr pt71 rfl Try.runUnderlying36 rfl rfl Try.sizeOf3 (by decide) rfl) (Wd.g rfl rfl rfl) rfl rfl ?_
              refine LR.v (Y.load1 (pt71.drop 0) rfl Try.isAgg3 rfl) (Wd.g rfl rfl rfl) rfl rfl ?_
              refine LR.v (Y.fieldAddr va12.pt rfl Try.runUnderlying36 rfl rfl Try.sizeOf3 (by decide) rfl) (Wd.g rfl rfl rfl) rfl rfl ?_
              refine LR.v (Y.load1 va12.pt rfl Try.isAgg3 rfl) (Wd.g rfl rfl rfl) rfl rfl ?_
              refine LR.v (Y.eql rfl rfl rfl) (Wd.g rfl rfl rfl) rfl rfl ?_
              refine LR.v (Y.pick_t rfl rfl rfl) (Wd.u rfl) rfl rfl ?_
              refine LR.v (Y.assign rfl rfl) (Wd.u rfl) rfl rfl ?_
              refine LR.nil ?_
              have hpp := hp (by omega)
              refine QN.sub (hK18 () _ ?_) ⟨rfl, rfl, rfl, rfl, (iv (by omega)), rfl, (iv (by omega)), (iv (by omega)), (iv (by omega)), rfl, (by first | exact congrArg some (bF (by omega)) | exact congrArg some (bdec (by omega))), trivial⟩
              rfl
            ·
              refine LR.gs rfl rfl rfl rfl rfl rfl ?_
              refine LR.gs rfl rfl rfl rfl rfl rfl ?_
              refine LR.gs rfl rfl rfl rfl rfl rfl ?_
              refine LR.gs rfl rfl rfl rfl rfl rfl ?_
              refine LR.gs rfl rfl rfl rfl rfl rfl ?_
              refine LR.gs rfl rfl rfl rfl rfl rfl ?_
              refine LR.gs rfl rfl rfl rfl rfl rfl ?_
              refine LR.gs rfl rfl rfl rfl rfl rfl ?_
              refine LR.gs rfl rfl rfl rfl rfl rfl ?_
              refine LR.v (Y.pick_f rfl rfl rfl) (Wd.u rfl) rfl rfl ?_
              refine LR.v (Y.assign rfl rfl) (Wd.u rfl) rfl rfl ?_
              refine LR.nil ?_
              have hpp := hp (by omega)
              refine QN.sub (hK18 () _ ?_) ⟨rfl, rfl, rfl, rfl, (iv (by omega)), rfl, (iv (by omega)), (iv (by omega)), (iv (by omega)), rfl, (by first | exact congrArg some (bF (by omega)) | exact congrArg some (bdec (by omega))), trivial⟩
              rfl
          ·
            intro _ Hcutr16 hIcutr16
            obtain rfl := hIcutr16
            refine CW.condp rfl (fun c64 => ?_) (fun c64 => ?_)
            ·
              refine CW.seq (fun K19 hK19 hE19 => ?_)
              refine CW.region ?_
              refine LR.v (Y.assign rfl rfl) (Wd.u rfl) rfl rfl ?_
              refine LR.v (Y.assign rfl rfl) (Wd.u rfl) rfl rfl ?_
              refine LR.nil ?_
              refine hK19 _ _ ?_
              refine CW.ret (hE13 .ret nofun (by simp) _ _ (hE11 .ret nofun (by simp) _ _ (hE10 .ret nofun _ _ (hE7 .ret nofun _ _ (hE6 .ret nofun (by simp) _ _ (hE4 .ret nofun _ _ (hret .ret (.inr rfl) _ _ _ (res2 rfl rfl rfl) ?_)))))))
              have e : app (es[n] :: es.drop (n + 1)) p (a.drop i) (add.drop k) out = ([], 18) := by rw [app]; simp only [List.length_drop]; (repeat' split) <;> first | rfl | (exfalso; omega)
              rw [e] at happ
              rw [← happ]
              exact ⟨_, rfl, Rd.nil _ _ _ _, hs⟩
            ·
              refine CW.seq (fun K20 hK20 hE20 => ?_)
              refine CW.region ?_
              refine LR.v (Y.fieldAddr va12.pt rfl Try.runUnderlying36 rfl rfl Try.sizeOf3 (by decide) rfl) (Wd.u rfl) rfl rfl ?_
              refine LR.v (Y.load1 va12.pt rfl Try.isAgg3 rfl) (Wd.u rfl) rfl rfl ?_
              refine LR.v (Y.eql rfl rfl rfl) (Wd.u rfl) rfl rfl ?_
              refine LR.v (Y.assign rfl rfl) (Wd.u rfl) rfl rfl ?_
              refine LR.nil ?_
              refine hK20 _ _ ?_
              refine CW.condp rfl (fun c78 => ?_) (fun c78 => ?_)
              ·
                refine CW.seq (fun K21 hK21 hE21 => ?_)
                refine CW.seq (fun K22 hK22 hE22 => ?_)
                refine CW.region ?_
                refine LR.v (Y.fieldAddr va12.pt rfl Try.runUnderlying36 rfl rfl Try.sizeOf3 (by decide) rfl) (Wd.u rfl) rfl rfl ?_
                refine LR.v (Y.load1 (va12.pt.drop 1) rfl Try.isAgg3 rfl) (Wd.u rfl) rfl rfl ?_
                refine LR.v (Y.move rfl rfl) (Wd.u rfl) rfl rfl ?_
                refine LR.v (Y.len hd2 rfl Try.runUnderlying22 rfl) (Wd.u rfl) rfl rfl ?_
                refine LR.v (Y.move rfl rfl) (Wd.u rfl) rfl rfl ?_
                refine LR.v (Y.subi rfl rfl rfl (by omega)) (Wd.u rfl) rfl rfl ?_
                refine LR.v (Y.gtr rfl rfl rfl) (Wd.u rfl) rfl rfl ?_
                refine LR.nil ?_
                refine hK22 _ _ ?_
                refine CW.condp rfl (fun c88 => ?_) (fun c88 => ?_)
                ·
                  refine CW.seq (fun K23 hK23 hE23 => ?_)
                  refine CW.region ?_
                  refine LR.v (Y.assign rfl rfl) (Wd.u rfl) rfl rfl ?_
                  refine LR.v (Y.assign rfl rfl) (Wd.u rfl) rfl rfl ?_
                  refine LR.nil ?_
                  refine hK23 _ _ ?_
                  refine CW.ret (hE21 .ret nofun _ _ (hE13 .ret nofun (by simp) _ _ (hE11 .ret nofun (by simp) _ _ (hE10 .ret nofun _ _ (hE7 .ret nofun _ _ (hE6 .ret nofun (by simp) _ _ (hE4 .ret nofun _ _ (hret .ret (.inr rfl) _ _ _ (res2 rfl rfl rfl) ?_))))))))
                  have e : app (es[n] :: es.drop (n + 1)) p (a.drop i) (add.drop k) out = ([], 28) := by rw [app]; simp only [List.length_drop]; (repeat' split) <;> first | rfl | (exfalso; omega)
                  rw [e] at happ
                  rw [← happ]
                  exact ⟨_, rfl, Rd.nil _ _ _ _, hs⟩
                ·
                  refine CW.skip ?_
                  refine hK21 _ _ ?_
                  refine CW.seq (fun K24 hK24 hE24 => ?_)
                  refine CW.region ?_
                  refine LR.v (Y.move rfl rfl) (Wd.u rfl) rfl rfl ?_
                  refine LR.v (Y.move rfl rfl) (Wd.u rfl) rfl rfl ?_
                  refine LR.v (Y.move rfl rfl) (Wd.u rfl) rfl rfl ?_
                  refine LR.v (Y.move rfl rfl) (Wd.u rfl) rfl rfl ?_
                  refine LR.v (Y.fieldAddr va12.pt rfl Try.runUnderlying36 rfl rfl Try.sizeOf3 (by decide) rfl) (Wd.u rfl) rfl rfl ?_
                  refine LR.v (Y.load1 (va12.pt.drop 1) rfl Try.isAgg3 rfl) (Wd.u rfl) rfl rfl ?_
                  refine LR.v (Y.addi rfl rfl rfl (by omega)) (Wd.u rfl) rfl rfl ?_
                  refine LR.e (g := fun v => v) (Y.slice hd2 (k) (k + es[n].2.toNat) rfl Try.runUnderlying22 Try.sizeOf9 rfl (.inr ⟨_, _, _, rfl, rfl, by first | rfl | omega⟩) (.inr ⟨_, _, _, rfl, rfl, by first | rfl | omega⟩) (by omega) (by omega)) (Wd.u rfl) rfl rfl (fun v96 rd96 => ?_)
                  refine LR.z (Z.append ho rd96 rfl inf22 rfl rfl (by simp; omega) (by simp; omega)) (Wd.u rfl) rfl rfl (fun v97 H97 r97 => ?_)
                  obtain ⟨ho, hs97⟩ := r97
                  replace ha2 := ha2.up hs97 (fun b _ h1 h2 => by omega)
                  replace he2 := he2.up hs97 (fun b _ h1 h2 => by omega)
                  replace hd2 := hd2.up hs97 (fun b _ h1 h2 => by omega)
                  replace va12 := va12.up hs97 (by omega)
                  replace hs := hs.trans hs97 (fun _ _ e => e) (fun b hb e => by omega)
                  have hz97 := hs97.size
                  refine LR.v (Y.assign rfl rfl) (Wd.u rfl) rfl rfl ?_
                  refine LR.nil ?_
                  refine hK24 _ _ ?_
                  refine CW.region ?_
                  refine LR.v (Y.move rfl rfl) (Wd.u rfl) rfl rfl ?_
                  refine LR.v (Y.fieldAddr va12.pt rfl Try.runUnderlying36 rfl rfl Try.sizeOf3 (by decide) rfl) (Wd.u rfl) rfl rfl ?_
                  refine LR.v (Y.load1 (va12.pt.drop 1) rfl Try.isAgg3 rfl) (Wd.u rfl) rfl rfl ?_
                  refine LR.v (Y.addi rfl rfl rfl (by omega)) (Wd.u rfl) rfl rfl ?_
                  refine LR.v (Y.assign rfl rfl) (Wd.u rfl) rfl rfl ?_
                  refine LR.nil ?_
                  refine hK13 _ _ ?_
                  refine hK11 _ _ ?_
                  refine hK10 _ _ ?_
                  refine CW.region ?_
                  refine LR.v (Y.move rfl rfl) (Wd.u rfl) rfl rfl ?_
                  refine LR.v (Y.addi rfl rfl rfl (by omega)) (Wd.u rfl) rfl rfl ?_
                  refine LR.v (Y.assign rfl rfl) (Wd.u rfl) rfl rfl ?_
                  refine LR.nil ?_
                  rw [app, if_neg (by omega), if_neg (by omega), if_neg (by omega), if_pos c78, if_neg (by rw [List.length_drop]; omega)] at happ
                  refine QN.sub (hN7 (n + 1, es[n].1, i, k + es[n].2.toNat, v97, out ++ (add.take (k + es[n].2.toNat)).drop k) _ ?_ ?_) ⟨rfl, rfl, rfl, rfl, (iv (by omega)), rfl, (iv (by omega)), (iv (by omega)), (iv (by omega)), trivial⟩
                  · exact ⟨by omega, by omega, by omega, hs, ho.imp (fun b _ e => by omega), by (try simp); omega, fun h => absurd h (by omega), fun h _ => by simp, by simpa only [take_of_drop, List.drop_drop] using happ⟩
                  · show es.length - (n + 1) < es.length - n; omega
              ·
                refine CW.seq (fun K25 hK25 hE25 => ?_)
                refine CW.seq (fun K26 hK26 hE26 => ?_)
                refine CW.region ?_
                refine LR.v (Y.fieldAddr va12.pt rfl Try.runUnderlying36 rfl rfl Try.sizeOf3 (by decide) rfl) (Wd.u rfl) rfl rfl ?_
                refine LR.v (Y.load1 (va12.pt.drop 1) rfl Try.isAgg3 rfl) (Wd.u rfl) rfl rfl ?_
                refine LR.v (Y.move rfl rfl) (Wd.u rfl) rfl rfl ?_
                refine LR.v (Y.len ha2 rfl Try.runUnderlying22 rfl) (Wd.u rfl) rfl rfl ?_
                refine LR.v (Y.move rfl rfl) (Wd.u rfl) rfl rfl ?_
                refine LR.v (Y.subi rfl rfl rfl (by omega)) (Wd.u rfl) rfl rfl ?_
                refine LR.v (Y.gtr rfl rfl rfl) (Wd.u rfl) rfl rfl ?_
                refine LR.nil ?_
                refine hK26 _ _ ?_
                refine CW.condp rfl (fun c29 => ?_) (fun c29 => ?_)
                ·
                  refine CW.seq (fun K27 hK27 hE27 => ?_)
                  refine CW.region ?_
                  refine LR.v (Y.assign rfl rfl) (Wd.u rfl) rfl rfl ?_
                  refine LR.v (Y.assign rfl rfl) (Wd.u rfl) rfl rfl ?_
                  refine LR.nil ?_
                  refine hK27 _ _ ?_
                  refine CW.ret (hE25 .ret nofun _ _ (hE13 .ret nofun (by simp) _ _ (hE11 .ret nofun (by simp) _ _ (hE10 .ret nofun _ _ (hE7 .ret nofun _ _ (hE6 .ret nofun (by simp) _ _ (hE4 .ret nofun _ _ (hret .ret (.inr rfl) _ _ _ (res2 rfl rfl rfl) ?_))))))))
                  have e : app (es[n] :: es.drop (n + 1)) p (a.drop i) (add.drop k) out = ([], 28) := by rw [app]; simp only [List.length_drop]; (repeat' split) <;> first | rfl | (exfalso; omega)
                  rw [e] at happ
                  rw [← happ]
                  exact ⟨_, rfl, Rd.nil _ _ _ _, hs⟩
                ·
                  refine CW.skip ?_
                  refine hK25 _ _ ?_
                  refine CW.seq (fun K28 hK28 hE28 => ?_)
                  refine CW.seq (fun K29 hK29 hE29 => ?_)
                  refine CW.region ?_
                  refine LR.v (Y.fieldAddr va12.pt rfl Try.runUnderlying36 rfl rfl Try.sizeOf3 (by decide) rfl) (Wd.u rfl) rfl rfl ?_
                  refine LR.v (Y.load1 va12.pt rfl Try.isAgg3 rfl) (Wd.u rfl) rfl rfl ?_
                  refine LR.v (Y.eql rfl rfl rfl) (Wd.u rfl) rfl rfl ?_
                  refine LR.nil ?_
                  refine hK29 _ _ ?_
                  refine CW.condp rfl (fun c32 => ?_) (fun c32 => ?_)
                  ·
                    refine CW.region ?_
                    refine LR.v (Y.move rfl rfl) (Wd.u rfl) rfl rfl ?_
                    refine LR.v (Y.move rfl rfl) (Wd.u rfl) rfl rfl ?_
                    refine LR.v (Y.move rfl rfl) (Wd.u rfl) rfl rfl ?_
                    refine LR.v (Y.move rfl rfl) (Wd.u rfl) rfl rfl ?_
                    refine LR.v (Y.fieldAddr va12.pt rfl Try.runUnderlying36 rfl rfl Try.sizeOf3 (by decide) rfl) (Wd.u rfl) rfl rfl ?_
                    refine LR.v (Y.load1 (va12.pt.drop 1) rfl Try.isAgg3 rfl) (Wd.u rfl) rfl rfl ?_
                    refine LR.v (Y.addi rfl rfl rfl (by omega)) (Wd.u rfl) rfl rfl ?_
                    refine LR.e (g := fun v => v) (Y.slice ha2 (i) (i + es[n].2.toNat) rfl Try.runUnderlying22 Try.sizeOf9 rfl (.inr ⟨_, _, _, rfl, rfl, by first | rfl | omega⟩) (.inr ⟨_, _, _, rfl, rfl, by first | rfl | omega⟩) (by omega) (by omega)) (Wd.u rfl) rfl rfl (fun v40 rd40 => ?_)
                    refine LR.z (Z.append ho rd40 rfl inf22 rfl rfl (by simp; omega) (by simp; omega)) (Wd.u rfl) rfl rfl (fun v41 H41 r41 => ?_)
                    obtain ⟨ho, hs41⟩ := r41
                    replace ha2 := ha2.up hs41 (fun b _ h1 h2 => by omega)
                    replace he2 := he2.up hs41 (fun b _ h1 h2 => by omega)
                    replace hd2 := hd2.up hs41 (fun b _ h1 h2 => by omega)
                    replace va12 := va12.up hs41 (by omega)
                    replace hs := hs.trans hs41 (fun _ _ e => e) (fun b hb e => by omega)
                    have hz41 := hs41.size
                    refine LR.v (Y.assign rfl rfl) (Wd.u rfl) rfl rfl ?_
                    refine LR.nil ?_
                    refine hK28 _ _ ?_
                    refine CW.region ?_
                    refine LR.v (Y.move rfl rfl) (Wd.u rfl) rfl rfl ?_
                    refine LR.v (Y.fieldAddr va12.pt rfl Try.runUnderlying36 rfl rfl Try.sizeOf3 (by decide) rfl) (Wd.u rfl) rfl rfl ?_
                    refine LR.v (Y.load1 (va12.pt.drop 1) rfl Try.isAgg3 rfl) (Wd.u rfl) rfl rfl ?_
                    refine LR.v (Y.addi rfl rfl rfl (by omega)) (Wd.u rfl) rfl rfl ?_
                    refine LR.v (Y.assign rfl rfl) (Wd.u rfl) rfl rfl ?_
                    refine LR.nil ?_
                    refine hK13 _ _ ?_
                    refine hK11 _ _ ?_
                    refine hK10 _ _ ?_
                    refine CW.region ?_
                    refine LR.v (Y.move rfl rfl) (Wd.u rfl) rfl rfl ?_
                    refine LR.v (Y.addi rfl rfl rfl (by omega)) (Wd.u rfl) rfl rfl ?_
                    refine LR.v (Y.assign rfl rfl) (Wd.u rfl) rfl rfl ?_
                    refine LR.nil ?_
                    rw [app, if_neg (by omega), if_neg (by omega), if_neg (by omega), if_neg c78, if_neg (by rw [List.length_drop]; omega), if_pos (show es[n].1 = 0 by omega)] at happ
                    refine QN.sub (hN7 (n + 1, es[n].1, i + es[n].2.toNat, k, v41, out ++ (a.take (i + es[n].2.toNat)).drop i) _ ?_ ?_) ⟨rfl, rfl, rfl, rfl, (iv (by omega)), rfl, (iv (by omega)), (iv (by omega)), (iv (by omega)), trivial⟩
                    · exact ⟨by omega, by omega, by omega, hs, ho.imp (fun b _ e => by omega), by (try simp); omega, fun h => absurd h (by omega), fun h _ => by simp, by simpa only [take_of_drop, List.drop_drop] using happ⟩
                    · show es.length - (n + 1) < es.length - n; omega
                  ·
                    refine CW.skip ?_
                    refine hK28 _ _ ?_
                    refine CW.region ?_
                    refine LR.v (Y.move rfl rfl) (Wd.u rfl) rfl rfl ?_
                    refine LR.v (Y.fieldAddr va12.pt rfl Try.runUnderlying36 rfl rfl Try.sizeOf3 (by decide) rfl) (Wd.u rfl) rfl rfl ?_
                    refine LR.v (Y.load1 (va12.pt.drop 1) rfl Try.isAgg3 rfl) (Wd.u rfl) rfl rfl ?_
                    refine LR.v (Y.addi rfl rfl rfl (by omega)) (Wd.u rfl) rfl rfl ?_
                    refine LR.v (Y.assign rfl rfl) (Wd.u rfl) rfl rfl ?_
                    refine LR.nil ?_
                    refine hK13 _ _ ?_
                    refine hK11 _ _ ?_
                    refine hK10 _ _ ?_
                    refine CW.region ?_
                    refine LR.v (Y.move rfl rfl) (Wd.u rfl) rfl rfl ?_
                    refine LR.v (Y.addi rfl rfl rfl (by omega)) (Wd.u rfl) rfl rfl ?_
                    refine LR.v (Y.assign rfl rfl) (Wd.u rfl) rfl rfl ?_
                    refine LR.nil ?_
                    rw [app, if_neg (by omega), if_neg (by omega), if_neg (by omega), if_neg c78, if_neg (by rw [List.length_drop]; omega), if_neg (show ¬ es[n].1 = 0 by omega)] at happ
                    refine QN.sub (hN7 (n + 1, es[n].1, i + es[n].2.toNat, k, vo, out) _ ?_ ?_) ⟨rfl, rfl, rfl, rfl, (iv (by omega)), rfl, (iv (by omega)), (iv (by omega)), (iv (by omega)), trivial⟩
                    · exact ⟨by omega, by omega, by omega, hs, ho.imp (fun b _ e => by omega), by (try simp); omega, fun h => absurd h (by omega), fun h _ => by simp, by simpa only [take_of_drop, List.drop_drop] using happ⟩
                    · show es.length - (n + 1) < es.length - n; omega
  ·
    rw [List.drop_of_length_le (show es.length ≤ n by omega), app, List.length_drop, List.length_drop] at happ
    refine CW.exit (hE8 (.exit 0) nofun _ _ (hE7 (.exit 0) nofun _ _ (hX6 _ _ ?_)))
    refine hK4 _ _ ?_
    refine CW.seq (fun K30 hK30 hE30 => ?_)
    refine CW.seq (fun K31 hK31 hE31 => ?_)
    refine CW.region ?_
    refine LR.v (Y.move rfl rfl) (Wd.u rfl) rfl rfl ?_
    refine LR.v (Y.move rfl rfl) (Wd.u rfl) rfl rfl ?_
    refine LR.v (Y.len ha2 rfl Try.runUnderlying22 rfl) (Wd.u rfl) rfl rfl ?_
    refine LR.v (Y.lss rfl rfl rfl) (Wd.u rfl) rfl rfl ?_
    refine LR.v (Y.move rfl rfl) (Wd.u rfl) rfl rfl ?_
    refine LR.splitp (d := 106) rfl (fun g106 => ?_) (fun g106 => ?_)
    ·
      refine LR.gs rfl rfl rfl rfl rfl rfl ?_
      refine LR.gs rfl rfl rfl rfl rfl rfl ?_
      refine LR.gs rfl rfl rfl rfl rfl rfl ?_
      refine LR.gs rfl rfl rfl rfl rfl rfl ?_
      refine LR.v (Y.pick_t rfl rfl rfl) (Wd.u rfl) rfl rfl ?_
      refine LR.nil ?_
      refine hK31 _ _ ?_
      refine CW.cond_t rfl ?_
      refine CW.seq (fun K32 hK32 hE32 => ?_)
      refine CW.region ?_
      refine LR.v (Y.assign rfl rfl) (Wd.u rfl) rfl rfl ?_
      refine LR.v (Y.assign rfl rfl) (Wd.u rfl) rfl rfl ?_
      refine LR.nil ?_
      refine hK32 _ _ ?_
      refine CW.ret (hE30 .ret nofun _ _ (hret .ret (.inr rfl) _ _ _ (res2 rfl rfl rfl) ?_))
      rw [if_pos (.inl (by omega))] at happ
      rw [← happ]
      exact ⟨_, rfl, Rd.nil _ _ _ _, hs⟩
    ·
      refine LR.v (Y.move rfl rfl) (Wd.g rfl rfl rfl) rfl rfl ?_
      refine LR.v (Y.move rfl rfl) (Wd.g rfl rfl rfl) rfl rfl ?_
      refine LR.v (Y.len hd2 rfl Try.runUnderlying22 rfl) (Wd.g rfl rfl rfl) rfl rfl ?_
      refine LR.v (Y.lss rfl rfl rfl) (Wd.g rfl rfl rfl) rfl rfl ?_
      refine LR.v (Y.pick_f rfl rfl rfl) (Wd.u rfl) rfl rfl ?_
      refine LR.nil ?_
      refine hK31 _ _ ?_
      refine CW.condp rfl (fun c111 => ?_) (fun c111 => ?_)
      ·
        refine CW.seq (fun K33 hK33 hE33 => ?_)
        refine CW.region ?_
        refine LR.v (Y.assign rfl rfl) (Wd.u rfl) rfl rfl ?_
        refine LR.v (Y.assign rfl rfl) (Wd.u rfl) rfl rfl ?_
        refine LR.nil ?_
        refine hK33 _ _ ?_
        refine CW.ret (hE30 .ret nofun _ _ (hret .ret (.inr rfl) _ _ _ (res2 rfl rfl rfl) ?_))
        rw [if_pos (.inr (by omega))] at happ
        rw [← happ]
        exact ⟨_, rfl, Rd.nil _ _ _ _, hs⟩
      ·
        refine CW.skip ?_
        refine hK30 _ _ ?_
        refine CW.seq (fun K34 hK34 hE34 => ?_)
        refine CW.region ?_
        refine LR.v (Y.move rfl rfl) (Wd.u rfl) rfl rfl ?_
        refine LR.v (Y.assign rfl rfl) (Wd.u rfl) rfl rfl ?_
        refine LR.v (Y.assign rfl rfl) (Wd.u rfl) rfl rfl ?_
        refine LR.nil ?_
        refine hK34 _ _ ?_
        refine CW.ret (hret .ret (.inr rfl) _ _ _ (res2 rfl rfl rfl) ?_)
        rw [if_neg (by omega)] at happ
        rw [← happ]
        exact ⟨_, rfl, ho.rd.any, hs⟩

theorem added_ct (ve vb : Value) (a : List (List UInt8)) (es : List (Int × Int)) (b : List (List UInt8)) (w0 : World) (H0 : Heap)
    (he : RdT H0 fE 2 ve es) (hb : RdT H0 fS 1 vb b) (hf : flat es = W a b) (hpe : ∀ e ∈ es, 1 ≤ e.2 ∧ (e.1 = 0 ∨ e.1 = 1 ∨ e.1 = 2)) (hlb : b.length ≤ 1048576) :
    Ct Try.prog w0 25 #[ve, vb] H0 (fun r H2 => RdT H2 fS 1 r (addd es b) ∧ Nw H0 H2) := by
  refine Ct.enter (args := [ve, vb]) Try.func25 rfl rfl rfl ?_
  intro Q0 hret
  have hel := he.len
  replace he := he.lt
  replace hb := hb.lt
  refine CW.seq (fun K1 hK1 hE1 => ?_)
  refine CW.region ?_
  refine LR.v (Y.assign rfl rfl) (Wd.u rfl) rfl rfl ?_
  refine LR.nil ?_
  refine hK1 _ _ ?_
  refine CW.seq (fun K2 hK2 hE2 => ?_)
  refine CW.region ?_
  refine LR.v (Y.assign rfl rfl) (Wd.u rfl) rfl rfl ?_
  refine LR.nil ?_
  refine hK2 _ _ ?_
  refine CW.seq (fun K3 hK3 hE3 => ?_)
  refine CW.region ?_
  refine LR.v (Y.assign rfl rfl) (Wd.u rfl) rfl rfl ?_
  refine LR.nil ?_
  refine hK3 _ _ ?_
  refine CW.seq (fun K4 hK4 hE4 => ?_)
  refine CW.seq (fun K5 hK5 hE5 => ?_)
  refine CW.region ?_
  refine LR.v (Y.assign rfl rfl) (Wd.u rfl) rfl rfl ?_
  refine LR.nil ?_
  refine hK5 _ _ ?_
  refine CW.block (fun K6 hK6 hX6 hE6 => ?_)
  refine CW.loop (fun (s : (Nat) × (Nat) × (Nat) × (Value) × (List (List UInt8))) => match s with | (n, i, k, vo, out) => [(0, ve), (1, vb), (5, vo), (6, .int .i64 k), (7, .int .i64 n)])
    (fun (s : (Nat) × (Nat) × (Nat) × (Value) × (List (List UInt8))) (H : Heap) => match s with | (n, i, k, vo, out) => n ≤ es.length ∧ k ≤ b.length ∧ Nw H0 H ∧ Own (fun b => H0.size ≤ b) 9 H fS 1 vo out ∧ out.length ≤ k ∧ flat (es.drop n) = W (a.drop i) (b.drop k) ∧ out ++ addd (es.drop n) (b.drop k) = addd es b)
    (fun (s : (Nat) × (Nat) × (Nat) × (Value) × (List (List UInt8))) => match s with | (n, i, k, vo, out) => es.length - n) (0, 0, 0, .slice none 0 0, []) ⟨rfl, rfl, rfl, rfl, rfl, trivial⟩ ?_ ?_
  ·
    exact ⟨by omega, by omega, Nw.refl _, Own.nil fS_len fS_one, by simp, by simpa using hf, by simp⟩
  rintro ⟨n, i, k, vo, out⟩ H1 hI1 K7 hN7 hE7
  obtain ⟨hn, hk, hs, ho, hl, hfl, hadd⟩ := hI1
  have hzz := hs.size
  have hb2 := hb.nw hs
  have he2 := he.nw hs
  refine CW.seq (fun K8 hK8 hE8 => ?_)
  refine CW.seq (fun K9 hK9 hE9 => ?_)
  refine CW.region ?_
  refine LR.v (Y.move rfl rfl) (Wd.u rfl) rfl rfl ?_
  refine LR.v (Y.move rfl rfl) (Wd.u rfl) rfl rfl ?_
  refine LR.v (Y.len he2 rfl Try.runUnderlying25 rfl) (Wd.u rfl) rfl rfl ?_
  refine LR.v (Y.lss rfl rfl rfl) (Wd.u rfl) rfl rfl ?_
  refine LR.nil ?_
  refine hK9 _ _ ?_
  refine CW.condp rfl (fun c11 => ?_) (fun c11 => ?_)
  ·
    obtain ⟨h1, h2⟩ := hpe es[n] (List.getElem_mem _)
    rw [List.drop_eq_getElem_cons (show n < es.length by omega)] at hfl hadd
    rw [addd] at hadd
    have hfl2 : W (a.drop i) (b.drop k) = List.replicate es[n].2.toNat es[n].1 ++ flat (es.drop (n + 1)) := by rw [← hfl]; rfl
    refine CW.skip ?_
    refine hK8 _ _ ?_
    refine CW.seq (fun K10 hK10 hE10 => ?_)
    refine CW.block (fun K11 hK11 hX11 hE11 => ?_)
    refine CW.seq (fun K12 hK12 hE12 => ?_)
    refine CW.seq (fun K13 hK13 hE13 => ?_)
    refine CW.region ?_
    refine LR.v (Y.move rfl rfl) (Wd.u rfl) rfl rfl ?_
    refine LR.v (Y.move rfl rfl) (Wd.u rfl) rfl rfl ?_
    refine LR.e (g := fun ad => .pointer (some ad)) (Y.indexAddr he2 (n) rfl Try.runUnderlying25 Try.sizeOf36 rfl rfl (by first | rfl | omega) (by omega)) (Wd.u rfl) rfl rfl (fun ad16 pt16 => ?_)
    refine LR.v (Y.fieldAddr pt16 rfl Try.runUnderlying36 rfl rfl Try.sizeOf3 (by decide) rfl) (Wd.u rfl) rfl rfl ?_
    refine LR.v (Y.load1 (pt16.drop 0) rfl Try.isAgg3 rfl) (Wd.u rfl) rfl rfl ?_
    refine LR.v (Y.eql rfl rfl rfl) (Wd.u rfl) rfl rfl ?_
    refine LR.nil ?_
    refine hK13 _ _ ?_
    refine CW.condp rfl (fun c19 => ?_) (fun c19 => ?_)
    ·
      rw [c19] at hfl2
      obtain ⟨g1, g4⟩ := W_rep2 _ _ _ _ hfl2
      rw [List.length_drop] at g1
      rw [if_pos c19, if_pos (by omega)] at hadd
      refine CW.region ?_
      refine LR.v (Y.move rfl rfl) (Wd.u rfl) rfl rfl ?_
      refine LR.v (Y.move rfl rfl) (Wd.u rfl) rfl rfl ?_
      refine LR.v (Y.move rfl rfl) (Wd.u rfl) rfl rfl ?_
      refine LR.v (Y.move rfl rfl) (Wd.u rfl) rfl rfl ?_
      refine LR.v (Y.move rfl rfl) (Wd.u rfl) rfl rfl ?_
      refine LR.v (Y.move rfl rfl) (Wd.u rfl) rfl rfl ?_
      refine LR.e (g := fun ad => .pointer (some ad)) (Y.indexAddr he2 (n) rfl Try.runUnderlying25 Try.sizeOf36 rfl rfl (by first | rfl | omega) (by omega)) (Wd.u rfl) rfl rfl (fun ad26 pt26 => ?_)
      refine LR.v (Y.fieldAddr pt26 rfl Try.runUnderlying36 rfl rfl Try.sizeOf3 (by decide) rfl) (Wd.u rfl) rfl rfl ?_
      refine LR.v (Y.load1 (pt26.drop 1) rfl Try.isAgg3 rfl) (Wd.u rfl) rfl rfl ?_
      refine LR.v (Y.addi rfl rfl rfl (by omega)) (Wd.u rfl) rfl rfl ?_
      refine LR.e (g := fun v => v) (Y.slice hb2 (k) (k + es[n].2.toNat) rfl Try.runUnderlying22 Try.sizeOf9 rfl (.inr ⟨_, _, _, rfl, rfl, by first | rfl | omega⟩) (.inr ⟨_, _, _, rfl, rfl, by first | rfl | omega⟩) (by omega) (by omega)) (Wd.u rfl) rfl rfl (fun v30 rd30 => ?_)
      refine LR.z (Z.append ho rd30 rfl inf22 rfl rfl (by simp; omega) (by simp; omega)) (Wd.u rfl) rfl rfl (fun v31 H31 r31 => ?_)
      obtain ⟨ho, hs31⟩ := r31
      replace he2 := he2.up hs31 (fun b _ h1 h2 => by omega)
      replace hb2 := hb2.up hs31 (fun b _ h1 h2 => by omega)
      replace hs := hs.trans hs31 (fun _ _ e => e) (fun b hb e => by omega)
      have hz31 := hs31.size
      refine LR.v (Y.assign rfl rfl) (Wd.u rfl) rfl rfl ?_
      refine LR.nil ?_
      refine hK12 _ _ ?_
      refine CW.seq (fun K14 hK14 hE14 => ?_)
      refine CW.region ?_
      refine LR.v (Y.move rfl rfl) (Wd.u rfl) rfl rfl ?_
      refine LR.v (Y.move rfl rfl) (Wd.u rfl) rfl rfl ?_
      refine LR.e (g := fun ad => .pointer (some ad)) (Y.indexAddr he2 (n) rfl Try.runUnderlying25 Try.sizeOf36 rfl rfl (by first | rfl | omega) (by omega)) (Wd.u rfl) rfl rfl (fun ad34 pt34 => ?_)
      refine LR.v (Y.fieldAddr pt34 rfl Try.runUnderlying36 rfl rfl Try.sizeOf3 (by decide) rfl) (Wd.u rfl) rfl rfl ?_
      refine LR.v (Y.load1 (pt34.drop 0) rfl Try.isAgg3 rfl) (Wd.u rfl) rfl rfl ?_
      refine LR.v (Y.neq rfl rfl rfl) (Wd.u rfl) rfl rfl ?_
      refine LR.nil ?_
      refine hK14 _ _ ?_
      refine CW.condp rfl (fun c37 => ?_) (fun c37 => ?_)
      ·
        first
        | exfalso; omega
        | skip
          try (rw [show es[n].1 = 0 by omega] at hfl2; obtain ⟨g1, g2, g3, g4⟩ := W_rep0 _ _ _ _ hfl2; rw [List.length_drop] at g1 g2)
          refine CW.region ?_
          refine LR.v (Y.move rfl rfl) (Wd.u rfl) rfl rfl ?_
          refine LR.v (Y.move rfl rfl) (Wd.u rfl) rfl rfl ?_
          refine LR.v (Y.move rfl rfl) (Wd.u rfl) rfl rfl ?_
          refine LR.e (g := fun ad => .pointer (some ad)) (Y.indexAddr he2 (n) rfl Try.runUnderlying25 Try.sizeOf36 rfl rfl (by first | rfl | omega) (by omega)) (Wd.u rfl) rfl rfl (fun ad41 pt41 => ?_)
          refine LR.v (Y.fieldAddr pt41 rfl Try.runUnderlying36 rfl rfl Try.sizeOf3 (by decide) rfl) (Wd.u rfl) rfl rfl ?_
          refine LR.v (Y.load1 (pt41.drop 1) rfl Try.isAgg3 rfl) (Wd.u rfl) rfl rfl ?_
          refine LR.v (Y.addi rfl rfl rfl (by omega)) (Wd.u rfl) rfl rfl ?_
          refine LR.v (Y.assign rfl rfl) (Wd.u rfl) rfl rfl ?_
          refine LR.nil ?_
          refine hK11 _ _ ?_
          refine hK10 _ _ ?_
          refine CW.region ?_
          refine LR.v (Y.move rfl rfl) (Wd.u rfl) rfl rfl ?_
          refine LR.v (Y.addi rfl rfl rfl (by omega)) (Wd.u rfl) rfl rfl ?_
          refine LR.v (Y.assign rfl rfl) (Wd.u rfl) rfl rfl ?_
          refine LR.nil ?_
          refine QN.sub (hN7 (n + 1, i, k + es[n].2.toNat, v31, out ++ (b.take (k + es[n].2.toNat)).drop k) _ ?_ ?_) ⟨rfl, rfl, rfl, (iv (by omega)), (iv (by omega)), trivial⟩
          · exact ⟨by omega, by omega, hs, ho.imp (fun b _ e => by omega), by simp; omega, by rw [g4, List.drop_drop], by rw [← hadd, take_of_drop, List.drop_drop, List.append_assoc]⟩
          · show es.length - (n + 1) < es.length - n; omega
      ·
        first
        | exfalso; omega
        | skip
          try (rw [show es[n].1 = 1 by omega] at hfl2; obtain ⟨g1, g4⟩ := W_rep1 _ _ _ _ hfl2)
          refine CW.skip ?_
          refine hK11 _ _ ?_
          refine hK10 _ _ ?_
          refine CW.region ?_
          refine LR.v (Y.move rfl rfl) (Wd.u rfl) rfl rfl ?_
          refine LR.v (Y.addi rfl rfl rfl (by omega)) (Wd.u rfl) rfl rfl ?_
          refine LR.v (Y.assign rfl rfl) (Wd.u rfl) rfl rfl ?_
          refine LR.nil ?_
          refine QN.sub (hN7 (n + 1, i, k, vo, out) _ ?_ ?_) ⟨rfl, rfl, rfl, (iv (by omega)), (iv (by omega)), trivial⟩
          · exfalso; omega
          · show es.length - (n + 1) < es.length - n; omega
    ·
      rw [if_neg c19, List.nil_append] at hadd
      refine CW.skip ?_
      refine hK12 _ _ ?_
      refine CW.seq (fun K15 hK15 hE15 => ?_)
      refine CW.region ?_
      refine LR.v (Y.move rfl rfl) (Wd.u rfl) rfl rfl ?_
      refine LR.v (Y.move rfl rfl) (Wd.u rfl) rfl rfl ?_
      refine LR.e (g := fun ad => .pointer (some ad)) (Y.indexAddr he2 (n) rfl Try.runUnderlying25 Try.sizeOf36 rfl rfl (by first | rfl | omega) (by omega)) (Wd.u rfl) rfl rfl (fun ad34 pt34 => ?_)
      refine LR.v (Y.fieldAddr pt34 rfl Try.runUnderlying36 rfl rfl Try.sizeOf3 (by decide) rfl) (Wd.u rfl) rfl rfl ?_
      refine LR.v (Y.load1 (pt34.drop 0) rfl Try.isAgg3 rfl) (Wd.u rfl) rfl rfl ?_
      refine LR.v (Y.neq rfl rfl rfl) (Wd.u rfl) rfl rfl ?_
      refine LR.nil ?_
      refine hK15 _ _ ?_
      refine CW.condp rfl (fun c37 => ?_) (fun c37 => ?_)
      ·
        first
        | exfalso; omega
        | skip
          try (rw [show es[n].1 = 0 by omega] at hfl2; obtain ⟨g1, g2, g3, g4⟩ := W_rep0 _ _ _ _ hfl2; rw [List.length_drop] at g1 g2)
          refine CW.region ?_
          refine LR.v (Y.move rfl rfl) (Wd.u rfl) rfl rfl ?_
          refine LR.v (Y.move rfl rfl) (Wd.u rfl) rfl rfl ?_
          refine LR.v (Y.move rfl rfl) (Wd.u rfl) rfl rfl ?_
          refine LR.e (g := fun ad => .pointer (some ad)) (Y.indexAddr he2 (n) rfl Try.runUnderlying25 Try.sizeOf36 rfl rfl (by first | rfl | omega) (by omega)) (Wd.u rfl) rfl rfl (fun ad41 pt41 => ?_)
          refine LR.v (Y.fieldAddr pt41 rfl Try.runUnderlying36 rfl rfl Try.sizeOf3 (by decide) rfl) (Wd.u rfl) rfl rfl ?_
          refine LR.v (Y.load1 (pt41.drop 1) rfl Try.isAgg3 rfl) (Wd.u rfl) rfl rfl ?_
          refine LR.v (Y.addi rfl rfl rfl (by omega)) (Wd.u rfl) rfl rfl ?_
          refine LR.v (Y.assign rfl rfl) (Wd.u rfl) rfl rfl ?_
          refine LR.nil ?_
          refine hK11 _ _ ?_
          refine hK10 _ _ ?_
          refine CW.region ?_
          refine LR.v (Y.move rfl rfl) (Wd.u rfl) rfl rfl ?_
          refine LR.v (Y.addi rfl rfl rfl (by omega)) (Wd.u rfl) rfl rfl ?_
          refine LR.v (Y.assign rfl rfl) (Wd.u rfl) rfl rfl ?_
          refine LR.nil ?_
          rw [if_pos c37] at hadd
          refine QN.sub (hN7 (n + 1, i + es[n].2.toNat, k + es[n].2.toNat, vo, out) _ ?_ ?_) ⟨rfl, rfl, rfl, (iv (by omega)), (iv (by omega)), trivial⟩
          · exact ⟨by omega, by omega, hs, ho, by omega, by rw [g4, List.drop_drop, List.drop_drop], by rw [← hadd, List.drop_drop]⟩
          · show es.length - (n + 1) < es.length - n; omega
      ·
        first
        | exfalso; omega
        | skip
          try (rw [show es[n].1 = 1 by omega] at hfl2; obtain ⟨g1, g4⟩ := W_rep1 _ _ _ _ hfl2)
          refine CW.skip ?_
          refine hK11 _ _ ?_
          refine hK10 _ _ ?_
          refine CW.region ?_
          refine LR.v (Y.move rfl rfl) (Wd.u rfl) rfl rfl ?_
          refine LR.v (Y.addi rfl rfl rfl (by omega)) (Wd.u rfl) rfl rfl ?_
          refine LR.v (Y.assign rfl rfl) (Wd.u rfl) rfl rfl ?_
          refine LR.nil ?_
          rw [if_neg c37] at hadd
          refine QN.sub (hN7 (n + 1, i + es[n].2.toNat, k, vo, out) _ ?_ ?_) ⟨rfl, rfl, rfl, (iv (by omega)), (iv (by omega)), trivial⟩
          · exact ⟨by omega, by omega, hs, ho, by omega, by rw [g4, List.drop_drop], hadd⟩
          · show es.length - (n + 1) < es.length - n; omega
  ·
    rw [List.drop_of_length_le (show es.length ≤ n by omega), addd, List.append_nil] at hadd
    subst hadd
    refine CW.exit (hE8 (.exit 0) nofun _ _ (hE7 (.exit 0) nofun _ _ (hX6 _ _ ?_)))
    refine hK4 _ _ ?_
    refine CW.seq (fun K16 hK16 hE16 => ?_)
    refine CW.region ?_
    refine LR.v (Y.move rfl rfl) (Wd.u rfl) rfl rfl ?_
    refine LR.v (Y.assign rfl rfl) (Wd.u rfl) rfl rfl ?_
    refine LR.nil ?_
    refine hK16 _ _ ?_
    refine CW.ret (hret .ret (.inr rfl) _ _ _ (res1 rfl rfl) ?_)
    exact ⟨ho.rd.any, hs⟩

end Go.Proofs.Ytkofoccjnoenlaa.LinJ
