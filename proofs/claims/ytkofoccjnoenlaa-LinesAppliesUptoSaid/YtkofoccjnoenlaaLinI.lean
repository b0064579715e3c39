/-
  The contracts of the functions that carry out a script.
-/
import Derived.Test.YtkofoccjnoenlaaLinG
import Derived.Test.YtkofoccjnoenlaaVar
namespace Go.Proofs.Ytkofoccjnoenlaa.LinI
open Go.Proofs.Ytkofoccjnoenlaa.E Go.RowKit Go.Proofs.Ytkofoccjnoenlaa.LinM Go.Proofs.Ytkofoccjnoenlaa.LinA Go.Proofs.Ytkofoccjnoenlaa.LinB Go.Proofs.Ytkofoccjnoenlaa.LinC Go.Proofs.Ytkofoccjnoenlaa.LinD Go.Proofs.Ytkofoccjnoenlaa.LinE Go.Proofs.Ytkofoccjnoenlaa.LinF Go.Proofs.Ytkofoccjnoenlaa.LinG
set_option linter.unusedVariables false
set_option linter.unusedSimpArgs false
set_option linter.unusedSectionVars false
theorem inf22 : Inf Try.prog 22 9 1 16 := ⟨Try.underlying22, _, _, rfl, rfl, rfl, rfl, rfl⟩

theorem fE_oneb (e : Int × Int) : ∀ u ∈ fE e, u.oneCell' = true := fE_one e
section
variable {α : Type}
/-- a script is carried out: what comes of it, and the code -/
def app : List (Int × Int) → Int → List α → List α → List α → List α × Int
  | [], _, a, add, out => if 0 < a.length ∨ 0 < add.length then ([], 28) else (out, 0)
  | e :: es, p, a, add, out =>
    if e.1 ≠ 0 ∧ e.1 ≠ 1 ∧ e.1 ≠ 2 then ([], 3) else if e.2 < 1 then ([], 1) else if p = e.1 then ([], 18)
    else if e.1 = 2 then (if (add.length : Int) < e.2 then ([], 28) else app es e.1 a (add.drop e.2.toNat) (out ++ add.take e.2.toNat))
    else if (a.length : Int) < e.2 then ([], 28) else app es e.1 (a.drop e.2.toNat) add (if e.1 = 0 then out ++ a.take e.2.toNat else out)
theorem app_cons (es : List (Int × Int)) (k : Nat) (hk : k < es.length) (p : Int) (a add out : List α) : app (es.drop k) p a add out = app (es[k] :: es.drop (k + 1)) p a add out := by rw [List.drop_eq_getElem_cons hk]
end

theorem clip_ct (v : Value) (l : List (List UInt8)) (w0 : World) (H0 : Heap)
    (hv : RdT H0 fS 1 v l) :
    Ct Try.prog w0 31 #[v] H0 (fun r H2 => RdT H2 fS 1 r l ∧ H2 = H0) := by
  refine Ct.enter (args := [v]) Try.func31 rfl rfl rfl ?_
  intro Q0 hret
  refine CW.seq (fun K1 hK1 hE1 => ?_)
  refine CW.region ?_
  refine LR.v (Y.assign rfl rfl) (Wd.u rfl) rfl rfl ?_
  refine LR.nil ?_
  refine hK1 _ _ ?_
  refine CW.seq (fun K2 hK2 hE2 => ?_)
  refine CW.region ?_
  refine LR.v (Y.move rfl rfl) (Wd.u rfl) rfl rfl ?_
  refine LR.v (Y.move rfl rfl) (Wd.u rfl) rfl rfl ?_
  refine LR.v (Y.len hv rfl Try.runUnderlying22 rfl) (Wd.u rfl) rfl rfl ?_
  refine LR.v (Y.move rfl rfl) (Wd.u rfl) rfl rfl ?_
  refine LR.v (Y.len hv rfl Try.runUnderlying22 rfl) (Wd.u rfl) rfl rfl ?_
  refine LR.e (g := fun v => v) (Y.slice3 hv (0) (l.length) (l.length) rfl Try.runUnderlying22 Try.sizeOf9 rfl (.inl ⟨rfl, rfl⟩) ⟨_, _, _, rfl, rfl, by first | rfl | omega⟩ ⟨_, _, _, rfl, rfl, by first | rfl | omega⟩ (by omega) (by omega) (by omega)) (Wd.u rfl) rfl rfl (fun v8 rd8 => ?_)
  refine LR.v (Y.assign rfl rfl) (Wd.u rfl) rfl rfl ?_
  refine LR.nil ?_
  refine hK2 _ _ ?_
  refine CW.ret (hret .ret (.inr rfl) _ _ _ (res1 rfl rfl) ?_)
  exact ⟨by simpa using rd8, rfl⟩

set_option maxHeartbeats 2000000 in
theorem apply_ct (va ve vd : Value) (a : List (List UInt8)) (es : List (Int × Int)) (add : List (List UInt8)) (w0 : World) (H0 : Heap)
    (ha : RdT H0 fS 1 va a) (he : RdT H0 fE 2 ve es) (hd : RdT H0 fS 1 vd add) (hla : a.length + add.length ≤ 1048576) :
    Ct Try.prog w0 23 #[va, ve, vd] H0 (fun r H2 => ∃ v, r = .tuple #[v, .int .i64 (app es (-1) a add []).2] ∧ RdT H2 fS 1 v (app es (-1) a add []).1 ∧ Nw H0 H2) := by
  refine Ct.enter (args := [va, ve, vd]) Try.func23 rfl rfl rfl ?_
  intro Q0 hret
  replace ha := ha.lt
  replace he := he.lt
  replace hd := hd.lt
  have hel := he.len
  refine CW.seq (fun K1 hK1 hE1 => ?_)
  refine CW.region ?_
  refine LR.z (Z.boxv1 rfl rfl ((ha).oneCell)) (Wd.u rfl) rfl rfl (fun v3 H3 r3 => ?_)
  obtain ⟨rfl, va3, hs3, ob3, hH3⟩ := r3
  replace ha := ha.nw hs3
  replace he := he.nw hs3
  replace hd := hd.nw hs3
  have hz3 : H3.size = H0.size + 1 := by rw [hH3]; simp
  refine LR.z (Z.boxv1 rfl rfl ((hd).oneCell)) (Wd.u rfl) rfl rfl (fun v5 H5 r5 => ?_)
  obtain ⟨rfl, va5, hs5, ob5, hH5⟩ := r5
  replace ha := ha.nw hs5
  replace he := he.nw hs5
  replace hd := hd.nw hs5
  replace va3 := va3.nw hs5
  have hs := hs3.tr hs5
  have hz5 : H5.size = H3.size + 1 := by rw [hH5]; simp
  refine LR.v (Y.assign rfl rfl) (Wd.u rfl) rfl rfl ?_
  refine LR.v (Y.assign rfl rfl) (Wd.u rfl) rfl rfl ?_
  refine LR.nil ?_
  refine hK1 _ _ ?_
  refine CW.seq (fun K2 hK2 hE2 => ?_)
  refine CW.region ?_
  refine LR.v (Y.assign rfl rfl) (Wd.u rfl) rfl rfl ?_
  refine LR.nil ?_
  refine hK2 _ _ ?_
  refine CW.seq (fun K3 hK3 hE3 => ?_)
  refine CW.seq (fun K4 hK4 hE4 => ?_)
  refine CW.region ?_
  refine LR.v (Y.move rfl rfl) (Wd.u rfl) rfl rfl ?_
  refine LR.v (Y.len he rfl Try.runUnderlying25 rfl) (Wd.u rfl) rfl rfl ?_
  refine LR.v (Y.move rfl rfl) (Wd.u rfl) rfl rfl ?_
  refine LR.nil ?_
  refine hK4 _ _ ?_
  refine CW.block (fun K5 hK5 hX5 hE5 => ?_)
  refine CW.loop (fun (s : (Nat) × (Int) × (Value) × (Value) × (List (List UInt8)) × (List (List UInt8)) × (Value) × (List (List UInt8))) => match s with | (k, p, va2, vd2, a2, d2, vo, out) => [(1, ve), (3, .pointer (some ⟨H0.size, 0, none⟩)), (5, .pointer (some ⟨H3.size, 0, none⟩)), (6, .slice none 0 0), (7, .int .i64 0), (8, vo), (12, ve), (13, .int .i64 es.length), (14, .int .i64 k)])
    (fun (s : (Nat) × (Int) × (Value) × (Value) × (List (List UInt8)) × (List (List UInt8)) × (Value) × (List (List UInt8))) (H : Heap) => match s with | (k, p, va2, vd2, a2, d2, vo, out) => k ≤ es.length ∧ Rd (fun b => b < H0.size) H fE 2 ve es ∧ Nw H0 H ∧ H3.size + 2 ≤ H.size + 1 ∧ Var 22 H H0.size [va2] ∧ Var 22 H H3.size [vd2] ∧ Rd (fun b => b < H0.size) H fS 1 va2 a2 ∧ Rd (fun b => b < H0.size) H fS 1 vd2 d2 ∧ Own (fun b => H3.size < b) 9 H fS 1 vo out ∧ out.length + a2.length + d2.length ≤ a.length + add.length ∧ (k = 0 → p = -1) ∧ (∀ h : k - 1 < es.length, 0 < k → p = es[k - 1].1) ∧ app (es.drop k) p a2 d2 out = app es (-1) a add [])
    (fun (s : (Nat) × (Int) × (Value) × (Value) × (List (List UInt8)) × (List (List UInt8)) × (Value) × (List (List UInt8))) => match s with | (k, p, va2, vd2, a2, d2, vo, out) => es.length - k) (0, -1, va, vd, a, add, .slice none 0 0, []) ⟨rfl, rfl, rfl, rfl, rfl, rfl, rfl, rfl, rfl, trivial⟩ ?_ ?_
  ·
    exact ⟨by omega, he, hs, by omega, va3, va5, ha, hd, Own.nil fS_len fS_one, by simp, fun _ => rfl, fun _ h => absurd h (by omega), rfl⟩
  rintro ⟨k, p, va2, vd2, a2, d2, vo, out⟩ H1 hI1 K6 hN6 hE6
  obtain ⟨hk, he, hs, hz, wa, wd, ha, hd, ho, hl, hp0, hp, happ⟩ := hI1
  have hzz := hs.size
  -- WARN live slots not in fl: [24, 25, 26, 29, 30, 31, 41, 42, 43, 44, 45, 46, 47, 48, 49]
  refine CW.seq (fun K7 hK7 hE7 => ?_)
  refine CW.region ?_
  refine LR.v (Y.lss rfl rfl rfl) (Wd.u rfl) rfl rfl ?_
  refine LR.nil ?_
  refine hK7 _ _ ?_
  refine CW.seq (fun K8 hK8 hE8 => ?_)
  refine CW.condp rfl (fun c15 => ?_) (fun c15 => ?_)
  ·
    refine CW.skip ?_
    refine hK8 _ _ ?_
    refine CW.seq (fun K9 hK9 hE9 => ?_)
    refine CW.block (fun K10 hK10 hX10 hE10 => ?_)
    refine CW.seq (fun K11 hK11 hE11 => ?_)
    refine CW.region ?_
    refine LR.v (Y.move rfl rfl) (Wd.u rfl) rfl rfl ?_
    refine LR.e (g := fun ad => .pointer (some ad)) (Y.indexAddr he (k) rfl Try.runUnderlying25 Try.sizeOf36 rfl rfl (by first | rfl | omega) (by omega)) (Wd.u rfl) rfl rfl (fun ad17 pt17 => ?_)
    refine LR.v (Y.loadN pt17 rfl Try.isAgg36 Try.sizeOf36 rfl rfl) (Wd.u rfl) rfl rfl ?_
    rw [app_cons es k (by omega)] at happ
    replace ho := ho.imp (G' := fun b => H3.size < b ∧ b < H1.size) (fun b hb e => ⟨e, hb⟩)
    refine LR.z (Z.allocv rfl Try.zeroValue36) (Wd.u rfl) rfl rfl (fun v10 H10 r10 => ?_)
    obtain ⟨rfl, va10, hs10, ob10, hH10⟩ := r10
    replace he := he.nw hs10
    replace ha := ha.nw hs10
    replace hd := hd.nw hs10
    replace ho := ho.nw hs10
    replace wa := wa.nw hs10
    replace wd := wd.nw hs10
    replace hs := hs.tr hs10
    have hz10 : H10.size = H1.size + 1 := by rw [hH10]; simp
    refine LR.v (Y.assign rfl rfl) (Wd.u rfl) rfl rfl ?_
    refine LR.s (S.var va10 (fE es[k]) (fE es[k]) rfl rfl rfl rfl (fE_oneb _) Try.sizeOf36 rfl (Nat.le_of_ble_eq_true rfl) (rfl)) (Wd.u rfl) rfl (fun H4_5 r4_5 => ?_)
    obtain ⟨va10, hsx⟩ := r4_5
    have hsz := hsx.size
    replace he := he.up hsx (fun b _ h1 h2 => by omega)
    replace ha := ha.up hsx (fun b _ h1 h2 => by omega)
    replace hd := hd.up hsx (fun b _ h1 h2 => by omega)
    replace ho := ho.up hsx (fun b _ h1 h2 => by omega)
    replace wa := wa.up hsx (by omega)
    replace wd := wd.up hsx (by omega)
    replace hs := hs.trans hsx (fun _ _ e => e) (fun b hb e => by omega)
    refine LR.nil ?_
    refine hK11 _ _ ?_
    refine CW.seq (fun K12 hK12 hE12 => ?_)
    refine CW.region ?_
    refine LR.v (Y.assign rfl rfl) (Wd.u rfl) rfl rfl ?_
    refine LR.nil ?_
    refine hK12 _ _ ?_
    refine CW.seq (fun K13 hK13 hE13 => ?_)
    refine CW.block (fun K14 hK14 hX14 hE14 => ?_)
    refine CW.cut (fun (_ : Unit) => [(1, ve), (3, .pointer (some ⟨H0.size, 0, none⟩)), (5, .pointer (some ⟨H3.size, 0, none⟩)), (6, .slice none 0 0), (7, .int .i64 0), (8, vo), (9, .int .i64 k), (10, .pointer (some ⟨H1.size, 0, none⟩)), (11, .pointer (some ⟨H0.size, 0, none⟩)), (12, ve), (13, .int .i64 es.length), (14, .int .i64 k), (19, .bool (decide (es[k].1 ≠ 0 ∧ es[k].1 ≠ 1 ∧ es[k].1 ≠ 2)))])
      (fun (_ : Unit) (H : Heap) => H = H4_5) (fun K15 hK15 hE15 => ?_) ?_
    ·
      refine CW.region ?_
      refine LR.v (Y.fieldAddr va10.pt rfl Try.runUnderlying36 rfl rfl Try.sizeOf3 (by decide) rfl) (Wd.u rfl) rfl rfl ?_
      refine LR.v (Y.load1 va10.pt rfl Try.isAgg3 rfl) (Wd.u rfl) rfl rfl ?_
      refine LR.v (Y.neq rfl rfl rfl) (Wd.u rfl) rfl rfl ?_
      refine LR.v (Y.move rfl rfl) (Wd.u rfl) rfl rfl ?_
      refine LR.splitp (d := 23) rfl (fun g23 => ?_) (fun g23 => ?_)
      ·
        refine LR.v (Y.fieldAddr va10.pt rfl Try.runUnderlying36 rfl rfl Try.sizeOf3 (by decide) rfl) (Wd.g rfl rfl rfl) rfl rfl ?_
        refine LR.v (Y.load1 va10.pt rfl Try.isAgg3 rfl) (Wd.g rfl rfl rfl) rfl rfl ?_
        refine LR.v (Y.neq rfl rfl rfl) (Wd.g rfl rfl rfl) rfl rfl ?_
        refine LR.v (Y.pick_t rfl rfl rfl) (Wd.u rfl) rfl rfl ?_
        refine LR.v (Y.move rfl rfl) (Wd.u rfl) rfl rfl ?_
        refine LR.splitp (d := 28) rfl (fun g28 => ?_) (fun g28 => ?_)
        ·
          refine LR.v (Y.fieldAddr va10.pt rfl Try.runUnderlying36 rfl rfl Try.sizeOf3 (by decide) rfl) (Wd.g rfl rfl rfl) rfl rfl ?_
          refine LR.v (Y.load1 va10.pt rfl Try.isAgg3 rfl) (Wd.g rfl rfl rfl) rfl rfl ?_
          refine LR.v (Y.neq rfl rfl rfl) (Wd.g rfl rfl rfl) rfl rfl ?_
          refine LR.v (Y.pick_t rfl rfl rfl) (Wd.u rfl) rfl rfl ?_
          refine LR.v (Y.assign rfl rfl) (Wd.u rfl) rfl rfl ?_
          refine LR.nil ?_
          refine QN.sub (hK15 () _ ?_) ⟨rfl, rfl, rfl, rfl, (iv (by omega)), rfl, (iv (by omega)), rfl, rfl, rfl, (iv (by omega)), (iv (by omega)), (by first | exact congrArg some (bF (by omega)) | exact congrArg some (bdec (by omega))), trivial⟩
          rfl
        ·
          refine LR.gs rfl rfl rfl rfl rfl rfl ?_
          refine LR.gs rfl rfl rfl rfl rfl rfl ?_
          refine LR.gs rfl rfl rfl rfl rfl rfl ?_
          refine LR.v (Y.pick_f rfl rfl rfl) (Wd.u rfl) rfl rfl ?_
          refine LR.v (Y.assign rfl rfl) (Wd.u rfl) rfl rfl ?_
          refine LR.nil ?_
          refine QN.sub (hK15 () _ ?_) ⟨rfl, rfl, rfl, rfl, (iv (by omega)), rfl, (iv (by omega)), rfl, rfl, rfl, (iv (by omega)), (iv (by omega)), (by first | exact congrArg some (bF (by omega)) | exact congrArg some (bdec (by omega))), trivial⟩
          rfl
      ·
        refine LR.gs rfl rfl rfl rfl rfl rfl ?_
        refine LR.gs rfl rfl rfl rfl rfl rfl ?_
        refine LR.gs rfl rfl rfl rfl rfl rfl ?_
        refine LR.v (Y.pick_f rfl rfl rfl) (Wd.u rfl) rfl rfl ?_
        refine LR.v (Y.move rfl rfl) (Wd.u rfl) rfl rfl ?_
        refine LR.gs rfl rfl rfl rfl rfl rfl ?_
        refine LR.gs rfl rfl rfl rfl rfl rfl ?_
        refine LR.gs rfl rfl rfl rfl rfl rfl ?_
        refine LR.v (Y.pick_f rfl rfl rfl) (Wd.u rfl) rfl rfl ?_
        refine LR.v (Y.assign rfl rfl) (Wd.u rfl) rfl rfl ?_
        refine LR.nil ?_
        refine QN.sub (hK15 () _ ?_) ⟨rfl, rfl, rfl, rfl, (iv (by omega)), rfl, (iv (by omega)), rfl, rfl, rfl, (iv (by omega)), (iv (by omega)), (by first | exact congrArg some (bF (by omega)) | exact congrArg some (bdec (by omega))), trivial⟩
        rfl
    ·
      intro _ Hcutr6 hIcutr6
      obtain rfl := hIcutr6
      refine CW.condp rfl (fun c19 => ?_) (fun c19 => ?_)
      ·
        refine CW.seq (fun K16 hK16 hE16 => ?_)
        refine CW.region ?_
        refine LR.v (Y.assign rfl rfl) (Wd.u rfl) rfl rfl ?_
        refine LR.v (Y.assign rfl rfl) (Wd.u rfl) rfl rfl ?_
        refine LR.nil ?_
        refine hK16 _ _ ?_
        refine CW.ret (hE14 .ret nofun (by simp) _ _ (hE13 .ret nofun _ _ (hE10 .ret nofun (by simp) _ _ (hE9 .ret nofun _ _ (hE6 .ret nofun _ _ (hE5 .ret nofun (by simp) _ _ (hE3 .ret nofun _ _ (hret .ret (.inr rfl) _ _ _ (res2 rfl rfl rfl) ?_))))))))
        have e : app (es[k] :: es.drop (k + 1)) p a2 d2 out = ([], 3) := by rw [app]; (repeat' split) <;> first | rfl | (exfalso; omega)
        rw [e] at happ
        rw [← happ]
        exact ⟨_, rfl, Rd.nil _ _ _ _, hs⟩
      ·
        refine CW.seq (fun K17 hK17 hE17 => ?_)
        refine CW.region ?_
        refine LR.v (Y.fieldAddr va10.pt rfl Try.runUnderlying36 rfl rfl Try.sizeOf3 (by decide) rfl) (Wd.u rfl) rfl rfl ?_
        refine LR.v (Y.load1 (va10.pt.drop 1) rfl Try.isAgg3 rfl) (Wd.u rfl) rfl rfl ?_
        refine LR.v (Y.lss rfl rfl rfl) (Wd.u rfl) rfl rfl ?_
        refine LR.v (Y.assign rfl rfl) (Wd.u rfl) rfl rfl ?_
        refine LR.nil ?_
        refine hK17 _ _ ?_
        refine CW.condp rfl (fun c33 => ?_) (fun c33 => ?_)
        ·
          refine CW.seq (fun K18 hK18 hE18 => ?_)
          refine CW.region ?_
          refine LR.v (Y.assign rfl rfl) (Wd.u rfl) rfl rfl ?_
          refine LR.v (Y.assign rfl rfl) (Wd.u rfl) rfl rfl ?_
          refine LR.nil ?_
          refine hK18 _ _ ?_
          refine CW.ret (hE14 .ret nofun (by simp) _ _ (hE13 .ret nofun _ _ (hE10 .ret nofun (by simp) _ _ (hE9 .ret nofun _ _ (hE6 .ret nofun _ _ (hE5 .ret nofun (by simp) _ _ (hE3 .ret nofun _ _ (hret .ret (.inr rfl) _ _ _ (res2 rfl rfl rfl) ?_))))))))
          have e : app (es[k] :: es.drop (k + 1)) p a2 d2 out = ([], 1) := by rw [app]; (repeat' split) <;> first | rfl | (exfalso; omega)
          rw [e] at happ
          rw [← happ]
          exact ⟨_, rfl, Rd.nil _ _ _ _, hs⟩
        ·
          refine CW.cut (fun (_ : Unit) => [(1, ve), (3, .pointer (some ⟨H0.size, 0, none⟩)), (5, .pointer (some ⟨H3.size, 0, none⟩)), (6, .slice none 0 0), (7, .int .i64 0), (8, vo), (9, .int .i64 k), (10, .pointer (some ⟨H1.size, 0, none⟩)), (11, .pointer (some ⟨H0.size, 0, none⟩)), (12, ve), (13, .int .i64 es.length), (14, .int .i64 k), (37, .bool (decide (p = es[k].1)))])
            (fun (_ : Unit) (H : Heap) => H = Hcutr6) (fun K19 hK19 hE19 => ?_) ?_
          ·
            refine CW.region_draw rfl (by kernel_rfl) ?_
            refine LR.v (Y.move rfl rfl) (Wd.u rfl) rfl rfl ?_
            refine LR.v (Y.gtr rfl rfl rfl) (Wd.u rfl) rfl rfl ?_
            refine LR.v (Y.move rfl rfl) (Wd.u rfl) rfl rfl ?_
            refine LR.splitp (d := 40) rfl (fun g40 => ?_) (fun g40 => ?_)
            ·
              refine LR.v (Y.move rfl rfl) (Wd.g rfl rfl rfl) rfl rfl ?_
              refine LR.v (Y.move rfl rfl) (Wd.g rfl rfl rfl) rfl rfl ?_
              refine LR.v (Y.subi rfl rfl rfl (by omega)) (Wd.g rfl rfl rfl) rfl rfl ?_
              refine LR.e (g := fun ad => .pointer (some ad)) (Y.indexAddr he (k - 1) rfl Try.runUnderlying25 Try.sizeOf36 rfl rfl (by omega) (by omega)) (Wd.g rfl rfl rfl) rfl rfl (fun ad44 pt44 => ?_)
              refine LR.v (Y.fieldAddr pt44 rfl Try.runUnderlying36 rfl rfl Try.sizeOf3 (by decide) rfl) (Wd.g rfl rfl rfl) rfl rfl ?_
              refine LR.v (Y.load1 (pt44.drop 0) rfl Try.isAgg3 rfl) (Wd.g rfl rfl rfl) rfl rfl ?_
              refine LR.v (Y.fieldAddr va10.pt rfl Try.runUnderlying36 rfl rfl Try.sizeOf3 (by decide) rfl) (Wd.g rfl rfl rfl) rfl rfl ?_
              refine LR.v (Y.load1 va10.pt rfl Try.isAgg3 rfl) (Wd.g rfl rfl rfl) rfl rfl ?_
              refine LR.v (Y.eql rfl rfl rfl) (Wd.g rfl rfl rfl) rfl rfl ?_
              refine LR.v (Y.pick_t rfl rfl rfl) (Wd.u rfl) rfl rfl ?_
              refine LR.v (Y.assign rfl rfl) (Wd.u rfl) rfl rfl ?_
              refine LR.nil ?_
              have hpp := hp (by omega)
              refine QN.sub (hK19 () _ ?_) ⟨rfl, rfl, rfl, rfl, (iv (by omega)), rfl, (iv (by omega)), rfl, rfl, rfl, (iv (by omega)), (iv (by omega)), (by first | exact congrArg some (bF (by omega)) | exact congrArg some (bdec (by omega))), trivial⟩
              rfl
            ·
              refine LR.gs rfl rfl rfl rfl rfl rfl ?_
              refine LR.gs rfl rfl rfl rfl rfl rfl ?_
              refine LR.gs rfl rfl rfl rfl rfl rfl ?_
              refine LR.gs rfl rfl rfl rfl rfl rfl ?_
              refine LR.gs rfl rfl rfl rfl rfl rfl ?_
              refine LR.gs rfl rfl rfl rfl rfl rfl ?_
              refine LR.gs rfl rfl rfl rfl rfl rfl ?_
              refine LR.gs rfl rfl rfl rfl rfl rfl ?_
              refine LR.gs rfl rfl rfl rfl rfl rfl ?_
              refine LR.v (Y.pick_f rfl rfl rfl) (Wd.u rfl) rfl rfl ?_
              refine LR.v (Y.assign rfl rfl) (Wd.u rfl) rfl rfl ?_
              refine LR.nil ?_
              have hpp := hp (by omega)
              refine QN.sub (hK19 () _ ?_) ⟨rfl, rfl, rfl, rfl, (iv (by omega)), rfl, (iv (by omega)), rfl, rfl, rfl, (iv (by omega)), (iv (by omega)), (by first | exact congrArg some (bF (by omega)) | exact congrArg some (bdec (by omega))), trivial⟩
              rfl
          ·
            intro _ Hcutr10 hIcutr10
            obtain rfl := hIcutr10
            refine CW.condp rfl (fun c37 => ?_) (fun c37 => ?_)
            ·
              refine CW.seq (fun K20 hK20 hE20 => ?_)
              refine CW.region ?_
              refine LR.v (Y.assign rfl rfl) (Wd.u rfl) rfl rfl ?_
              refine LR.v (Y.assign rfl rfl) (Wd.u rfl) rfl rfl ?_
              refine LR.nil ?_
              refine hK20 _ _ ?_
              refine CW.ret (hE14 .ret nofun (by simp) _ _ (hE13 .ret nofun _ _ (hE10 .ret nofun (by simp) _ _ (hE9 .ret nofun _ _ (hE6 .ret nofun _ _ (hE5 .ret nofun (by simp) _ _ (hE3 .ret nofun _ _ (hret .ret (.inr rfl) _ _ _ (res2 rfl rfl rfl) ?_))))))))
              have e : app (es[k] :: es.drop (k + 1)) p a2 d2 out = ([], 18) := by rw [app]; (repeat' split) <;> first | rfl | (exfalso; omega)
              rw [e] at happ
              rw [← happ]
              exact ⟨_, rfl, Rd.nil _ _ _ _, hs⟩
            ·
              refine CW.seq (fun K21 hK21 hE21 => ?_)
              refine CW.region ?_
              refine LR.v (Y.fieldAddr va10.pt rfl Try.runUnderlying36 rfl rfl Try.sizeOf3 (by decide) rfl) (Wd.u rfl) rfl rfl ?_
              refine LR.v (Y.load1 va10.pt rfl Try.isAgg3 rfl) (Wd.u rfl) rfl rfl ?_
              refine LR.v (Y.eql rfl rfl rfl) (Wd.u rfl) rfl rfl ?_
              refine LR.v (Y.assign rfl rfl) (Wd.u rfl) rfl rfl ?_
              refine LR.nil ?_
              refine hK21 _ _ ?_
              refine CW.condp rfl (fun c51 => ?_) (fun c51 => ?_)
              ·
                refine CW.region ?_
                refine LR.v (Y.assign rfl rfl) (Wd.u rfl) rfl rfl ?_
                refine LR.nil ?_
                refine hK14 _ _ ?_
                refine hK13 _ _ ?_
                refine CW.seq (fun K22 hK22 hE22 => ?_)
                refine CW.seq (fun K23 hK23 hE23 => ?_)
                refine CW.region_draw rfl (by kernel_rfl) ?_
                refine LR.v (Y.fieldAddr va10.pt rfl Try.runUnderlying36 rfl rfl Try.sizeOf3 (by decide) rfl) (Wd.u rfl) rfl rfl ?_
                refine LR.v (Y.load1 (va10.pt.drop 1) rfl Try.isAgg3 rfl) (Wd.u rfl) rfl rfl ?_
                refine LR.v (Y.move rfl rfl) (Wd.u rfl) rfl rfl ?_
                refine LR.v (Y.nilCheck rfl rfl) (Wd.u rfl) rfl rfl ?_
                refine LR.v (Y.load1 wd.pt rfl Try.isAgg22 rfl) (Wd.u rfl) rfl rfl ?_
                refine LR.v (Y.len hd rfl Try.runUnderlying22 rfl) (Wd.u rfl) rfl rfl ?_
                refine LR.v (Y.gtr rfl rfl rfl) (Wd.u rfl) rfl rfl ?_
                refine LR.nil ?_
                refine hK23 _ _ ?_
                refine CW.condp rfl (fun c61 => ?_) (fun c61 => ?_)
                ·
                  first
                  | exfalso; omega
                  | skip
                    refine CW.seq (fun K24 hK24 hE24 => ?_)
                    refine CW.region ?_
                    refine LR.v (Y.assign rfl rfl) (Wd.u rfl) rfl rfl ?_
                    refine LR.v (Y.assign rfl rfl) (Wd.u rfl) rfl rfl ?_
                    refine LR.nil ?_
                    refine hK24 _ _ ?_
                    refine CW.ret (hE22 .ret nofun _ _ (hE10 .ret nofun (by simp) _ _ (hE9 .ret nofun _ _ (hE6 .ret nofun _ _ (hE5 .ret nofun (by simp) _ _ (hE3 .ret nofun _ _ (hret .ret (.inr rfl) _ _ _ (res2 rfl rfl rfl) ?_)))))))
                    have e : app (es[k] :: es.drop (k + 1)) p a2 d2 out = ([], 28) := by rw [app]; (repeat' split) <;> first | rfl | (exfalso; omega)
                    rw [e] at happ
                    rw [← happ]
                    exact ⟨_, rfl, Rd.nil _ _ _ _, hs⟩
                ·
                  first
                  | exfalso; omega
                  | skip
                    refine CW.skip ?_
                    refine hK22 _ _ ?_
                    refine CW.seq (fun K25 hK25 hE25 => ?_)
                    refine CW.seq (fun K26 hK26 hE26 => ?_)
                    refine CW.region ?_
                    refine LR.v (Y.fieldAddr va10.pt rfl Try.runUnderlying36 rfl rfl Try.sizeOf3 (by decide) rfl) (Wd.u rfl) rfl rfl ?_
                    refine LR.v (Y.load1 va10.pt rfl Try.isAgg3 rfl) (Wd.u rfl) rfl rfl ?_
                    refine LR.v (Y.neq rfl rfl rfl) (Wd.u rfl) rfl rfl ?_
                    refine LR.nil ?_
                    refine hK26 _ _ ?_
                    refine CW.condp rfl (fun c64 => ?_) (fun c64 => ?_)
                    ·
                      first
                      | exfalso; omega
                      | skip
                        refine CW.region_tail 7 rfl (by kernel_rfl) (fun T17 hT17 => ?_)
                        refine LR.v (Y.move rfl rfl) (Wd.u rfl) rfl rfl ?_
                        refine LR.v (Y.move rfl rfl) (Wd.u rfl) rfl rfl ?_
                        refine LR.v (Y.nilCheck rfl rfl) (Wd.u rfl) rfl rfl ?_
                        refine LR.v (Y.load1 wd.pt rfl Try.isAgg22 rfl) (Wd.u rfl) rfl rfl ?_
                        refine LR.v (Y.fieldAddr va10.pt rfl Try.runUnderlying36 rfl rfl Try.sizeOf3 (by decide) rfl) (Wd.u rfl) rfl rfl ?_
                        refine LR.v (Y.load1 (va10.pt.drop 1) rfl Try.isAgg3 rfl) (Wd.u rfl) rfl rfl ?_
                        refine LR.e (g := fun v => v) (Y.slice hd (0) (es[k].2.toNat) rfl Try.runUnderlying22 Try.sizeOf9 rfl (.inl ⟨rfl, rfl⟩) (.inr ⟨_, _, _, rfl, rfl, by first | rfl | omega⟩) (by omega) (by omega)) (Wd.u rfl) rfl rfl (fun v71 rd71 => ?_)
                        refine LR.nil (hT17 _ ?_)
                        refine LR.z (Z.append ho rd71 rfl inf22 rfl rfl (by simp; omega) (by simp; omega)) (Wd.u rfl) rfl rfl (fun v72 H72 r72 => ?_)
                        obtain ⟨ho, hs72⟩ := r72
                        replace he := he.up hs72 (fun b _ h1 h2 => by omega)
                        replace ha := ha.up hs72 (fun b _ h1 h2 => by omega)
                        replace hd := hd.up hs72 (fun b _ h1 h2 => by omega)
                        replace wa := wa.up hs72 (by omega)
                        replace wd := wd.up hs72 (by omega)
                        replace va10 := va10.up hs72 (by omega)
                        replace hs := hs.trans hs72 (fun _ _ e => e) (fun b hb e => by omega)
                        have hz72 := hs72.size
                        refine LR.v (Y.assign rfl rfl) (Wd.u rfl) rfl rfl ?_
                        refine LR.nil ?_
                        refine hK25 _ _ ?_
                        refine CW.region_tail 8 rfl (by kernel_rfl) (fun T18 hT18 => ?_)
                        refine LR.v (Y.move rfl rfl) (Wd.u rfl) rfl rfl ?_
                        refine LR.v (Y.move rfl rfl) (Wd.u rfl) rfl rfl ?_
                        refine LR.v (Y.nilCheck rfl rfl) (Wd.u rfl) rfl rfl ?_
                        refine LR.v (Y.load1 wd.pt rfl Try.isAgg22 rfl) (Wd.u rfl) rfl rfl ?_
                        refine LR.v (Y.fieldAddr va10.pt rfl Try.runUnderlying36 rfl rfl Try.sizeOf3 (by decide) rfl) (Wd.u rfl) rfl rfl ?_
                        refine LR.v (Y.load1 (va10.pt.drop 1) rfl Try.isAgg3 rfl) (Wd.u rfl) rfl rfl ?_
                        refine LR.e (g := fun v => v) (Y.slice hd (es[k].2.toNat) (_) rfl Try.runUnderlying22 Try.sizeOf9 rfl (.inr ⟨_, _, _, rfl, rfl, by first | rfl | omega⟩) (.inl ⟨rfl, rfl⟩) (by omega) (by omega)) (Wd.u rfl) rfl rfl (fun v79 rd79 => ?_)
                        refine LR.v (Y.nilCheck rfl rfl) (Wd.u rfl) rfl rfl ?_
                        refine LR.nil (hT18 _ ?_)
                        refine LR.s (S.var1 wd 0 ([v79]) rfl rfl rfl (rd79.oneCell) Try.sizeOf22 (by simp) (rfl)) (Wd.u rfl) rfl (fun H18_8 r18_8 => ?_)
                        obtain ⟨wn, hst⟩ := r18_8
                        replace he := he.up hst (fun b _ h1 h2 => by omega)
                        replace ha := ha.up hst (fun b _ h1 h2 => by omega)
                        replace hd := hd.up hst (fun b _ h1 h2 => by omega)
                        replace rd79 := rd79.up hst (fun b _ h1 h2 => by omega)
                        replace ho := (ho.up hst (fun b _ h1 h2 => by omega)).imp (G' := fun b => H3.size < b) (fun b _ e => by omega)
                        replace hs := hs.trans hst (fun _ _ e => e) (fun b hb e => by omega)
                        have hzt := hst.size
                        first | (replace wd := wd.up hst (by omega); replace wa := wn) | (replace wa := wa.up hst (by omega); replace wd := wn)
                        simp only [List.take_length] at rd79
                        refine LR.nil ?_
                        refine hK10 _ _ ?_
                        refine hK9 _ _ ?_
                        refine CW.region ?_
                        refine LR.v (Y.addi rfl rfl rfl (by omega)) (Wd.u rfl) rfl rfl ?_
                        refine LR.v (Y.move rfl rfl) (Wd.u rfl) rfl rfl ?_
                        refine LR.nil ?_
                        rw [app, if_neg (by omega), if_neg (by omega), if_neg (by omega), if_pos c51, if_neg (by omega)] at happ
                        refine QN.sub (hN6 (k + 1, es[k].1, va2, v79, a2, d2.drop es[k].2.toNat, v72, out ++ (d2.take es[k].2.toNat).drop 0) _ ?_ ?_) ⟨rfl, rfl, rfl, rfl, (iv (by omega)), rfl, rfl, (iv (by omega)), (iv (by omega)), trivial⟩
                        · exact ⟨by omega, he, hs, by omega, wa, wd, by first | exact ha | exact rd79, by first | exact rd79 | exact hd, ho, by simp; omega, fun h => absurd h (by omega), fun h _ => by simp, by simpa using happ⟩
                        · show es.length - (k + 1) < es.length - k; omega
                    ·
                      first
                      | exfalso; omega
                      | skip
                        refine CW.skip ?_
                        refine hK25 _ _ ?_
                        refine CW.region_tail 8 rfl (by kernel_rfl) (fun T18 hT18 => ?_)
                        refine LR.v (Y.move rfl rfl) (Wd.u rfl) rfl rfl ?_
                        refine LR.v (Y.move rfl rfl) (Wd.u rfl) rfl rfl ?_
                        refine LR.v (Y.nilCheck rfl rfl) (Wd.u rfl) rfl rfl ?_
                        refine LR.v (Y.load1 wd.pt rfl Try.isAgg22 rfl) (Wd.u rfl) rfl rfl ?_
                        refine LR.v (Y.fieldAddr va10.pt rfl Try.runUnderlying36 rfl rfl Try.sizeOf3 (by decide) rfl) (Wd.u rfl) rfl rfl ?_
                        refine LR.v (Y.load1 (va10.pt.drop 1) rfl Try.isAgg3 rfl) (Wd.u rfl) rfl rfl ?_
                        refine LR.e (g := fun v => v) (Y.slice hd (es[k].2.toNat) (_) rfl Try.runUnderlying22 Try.sizeOf9 rfl (.inr ⟨_, _, _, rfl, rfl, by first | rfl | omega⟩) (.inl ⟨rfl, rfl⟩) (by omega) (by omega)) (Wd.u rfl) rfl rfl (fun v79 rd79 => ?_)
                        refine LR.v (Y.nilCheck rfl rfl) (Wd.u rfl) rfl rfl ?_
                        refine LR.nil (hT18 _ ?_)
                        refine LR.s (S.var1 wd 0 ([v79]) rfl rfl rfl (rd79.oneCell) Try.sizeOf22 (by simp) (rfl)) (Wd.u rfl) rfl (fun H18_8 r18_8 => ?_)
                        obtain ⟨wn, hst⟩ := r18_8
                        replace he := he.up hst (fun b _ h1 h2 => by omega)
                        replace ha := ha.up hst (fun b _ h1 h2 => by omega)
                        replace hd := hd.up hst (fun b _ h1 h2 => by omega)
                        replace rd79 := rd79.up hst (fun b _ h1 h2 => by omega)
                        replace ho := (ho.up hst (fun b _ h1 h2 => by omega)).imp (G' := fun b => H3.size < b) (fun b _ e => by omega)
                        replace hs := hs.trans hst (fun _ _ e => e) (fun b hb e => by omega)
                        have hzt := hst.size
                        first | (replace wd := wd.up hst (by omega); replace wa := wn) | (replace wa := wa.up hst (by omega); replace wd := wn)
                        simp only [List.take_length] at rd79
                        refine LR.nil ?_
                        refine hK10 _ _ ?_
                        refine hK9 _ _ ?_
                        refine CW.region ?_
                        refine LR.v (Y.addi rfl rfl rfl (by omega)) (Wd.u rfl) rfl rfl ?_
                        refine LR.v (Y.move rfl rfl) (Wd.u rfl) rfl rfl ?_
                        refine LR.nil ?_
                        rw [app, if_neg (by omega), if_neg (by omega), if_neg (by omega), if_pos c51, if_neg (by omega)] at happ
                        refine QN.sub (hN6 (k + 1, es[k].1, va2, v79, a2, d2.drop es[k].2.toNat, vo, out) _ ?_ ?_) ⟨rfl, rfl, rfl, rfl, (iv (by omega)), rfl, rfl, (iv (by omega)), (iv (by omega)), trivial⟩
                        · exact ⟨by omega, he, hs, by omega, wa, wd, by first | exact ha | exact rd79, by first | exact rd79 | exact hd, ho, by simp; omega, fun h => absurd h (by omega), fun h _ => by simp, by simpa using happ⟩
                        · show es.length - (k + 1) < es.length - k; omega
              ·
                refine CW.skip ?_
                refine hK14 _ _ ?_
                refine hK13 _ _ ?_
                refine CW.seq (fun K27 hK27 hE27 => ?_)
                refine CW.seq (fun K28 hK28 hE28 => ?_)
                refine CW.region_draw rfl (by kernel_rfl) ?_
                refine LR.v (Y.fieldAddr va10.pt rfl Try.runUnderlying36 rfl rfl Try.sizeOf3 (by decide) rfl) (Wd.u rfl) rfl rfl ?_
                refine LR.v (Y.load1 (va10.pt.drop 1) rfl Try.isAgg3 rfl) (Wd.u rfl) rfl rfl ?_
                refine LR.v (Y.move rfl rfl) (Wd.u rfl) rfl rfl ?_
                refine LR.v (Y.nilCheck rfl rfl) (Wd.u rfl) rfl rfl ?_
                refine LR.v (Y.load1 wa.pt rfl Try.isAgg22 rfl) (Wd.u rfl) rfl rfl ?_
                refine LR.v (Y.len ha rfl Try.runUnderlying22 rfl) (Wd.u rfl) rfl rfl ?_
                refine LR.v (Y.gtr rfl rfl rfl) (Wd.u rfl) rfl rfl ?_
                refine LR.nil ?_
                refine hK28 _ _ ?_
                refine CW.condp rfl (fun c61 => ?_) (fun c61 => ?_)
                ·
                  first
                  | exfalso; omega
                  | skip
                    refine CW.seq (fun K29 hK29 hE29 => ?_)
                    refine CW.region ?_
                    refine LR.v (Y.assign rfl rfl) (Wd.u rfl) rfl rfl ?_
                    refine LR.v (Y.assign rfl rfl) (Wd.u rfl) rfl rfl ?_
                    refine LR.nil ?_
                    refine hK29 _ _ ?_
                    refine CW.ret (hE27 .ret nofun _ _ (hE10 .ret nofun (by simp) _ _ (hE9 .ret nofun _ _ (hE6 .ret nofun _ _ (hE5 .ret nofun (by simp) _ _ (hE3 .ret nofun _ _ (hret .ret (.inr rfl) _ _ _ (res2 rfl rfl rfl) ?_)))))))
                    have e : app (es[k] :: es.drop (k + 1)) p a2 d2 out = ([], 28) := by rw [app]; (repeat' split) <;> first | rfl | (exfalso; omega)
                    rw [e] at happ
                    rw [← happ]
                    exact ⟨_, rfl, Rd.nil _ _ _ _, hs⟩
                ·
                  first
                  | exfalso; omega
                  | skip
                    refine CW.skip ?_
                    refine hK27 _ _ ?_
                    refine CW.seq (fun K30 hK30 hE30 => ?_)
                    refine CW.seq (fun K31 hK31 hE31 => ?_)
                    refine CW.region ?_
                    refine LR.v (Y.fieldAddr va10.pt rfl Try.runUnderlying36 rfl rfl Try.sizeOf3 (by decide) rfl) (Wd.u rfl) rfl rfl ?_
                    refine LR.v (Y.load1 va10.pt rfl Try.isAgg3 rfl) (Wd.u rfl) rfl rfl ?_
                    refine LR.v (Y.neq rfl rfl rfl) (Wd.u rfl) rfl rfl ?_
                    refine LR.nil ?_
                    refine hK31 _ _ ?_
                    refine CW.condp rfl (fun c64 => ?_) (fun c64 => ?_)
                    ·
                      first
                      | exfalso; omega
                      | skip
                        refine CW.region_tail 7 rfl (by kernel_rfl) (fun T17 hT17 => ?_)
                        refine LR.v (Y.move rfl rfl) (Wd.u rfl) rfl rfl ?_
                        refine LR.v (Y.move rfl rfl) (Wd.u rfl) rfl rfl ?_
                        refine LR.v (Y.nilCheck rfl rfl) (Wd.u rfl) rfl rfl ?_
                        refine LR.v (Y.load1 wa.pt rfl Try.isAgg22 rfl) (Wd.u rfl) rfl rfl ?_
                        refine LR.v (Y.fieldAddr va10.pt rfl Try.runUnderlying36 rfl rfl Try.sizeOf3 (by decide) rfl) (Wd.u rfl) rfl rfl ?_
                        refine LR.v (Y.load1 (va10.pt.drop 1) rfl Try.isAgg3 rfl) (Wd.u rfl) rfl rfl ?_
                        refine LR.e (g := fun v => v) (Y.slice ha (0) (es[k].2.toNat) rfl Try.runUnderlying22 Try.sizeOf9 rfl (.inl ⟨rfl, rfl⟩) (.inr ⟨_, _, _, rfl, rfl, by first | rfl | omega⟩) (by omega) (by omega)) (Wd.u rfl) rfl rfl (fun v71 rd71 => ?_)
                        refine LR.nil (hT17 _ ?_)
                        refine LR.z (Z.append ho rd71 rfl inf22 rfl rfl (by simp; omega) (by simp; omega)) (Wd.u rfl) rfl rfl (fun v72 H72 r72 => ?_)
                        obtain ⟨ho, hs72⟩ := r72
                        replace he := he.up hs72 (fun b _ h1 h2 => by omega)
                        replace ha := ha.up hs72 (fun b _ h1 h2 => by omega)
                        replace hd := hd.up hs72 (fun b _ h1 h2 => by omega)
                        replace wa := wa.up hs72 (by omega)
                        replace wd := wd.up hs72 (by omega)
                        replace va10 := va10.up hs72 (by omega)
                        replace hs := hs.trans hs72 (fun _ _ e => e) (fun b hb e => by omega)
                        have hz72 := hs72.size
                        refine LR.v (Y.assign rfl rfl) (Wd.u rfl) rfl rfl ?_
                        refine LR.nil ?_
                        refine hK30 _ _ ?_
                        refine CW.region_tail 8 rfl (by kernel_rfl) (fun T18 hT18 => ?_)
                        refine LR.v (Y.move rfl rfl) (Wd.u rfl) rfl rfl ?_
                        refine LR.v (Y.move rfl rfl) (Wd.u rfl) rfl rfl ?_
                        refine LR.v (Y.nilCheck rfl rfl) (Wd.u rfl) rfl rfl ?_
                        refine LR.v (Y.load1 wa.pt rfl Try.isAgg22 rfl) (Wd.u rfl) rfl rfl ?_
                        refine LR.v (Y.fieldAddr va10.pt rfl Try.runUnderlying36 rfl rfl Try.sizeOf3 (by decide) rfl) (Wd.u rfl) rfl rfl ?_
                        refine LR.v (Y.load1 (va10.pt.drop 1) rfl Try.isAgg3 rfl) (Wd.u rfl) rfl rfl ?_
                        refine LR.e (g := fun v => v) (Y.slice ha (es[k].2.toNat) (_) rfl Try.runUnderlying22 Try.sizeOf9 rfl (.inr ⟨_, _, _, rfl, rfl, by first | rfl | omega⟩) (.inl ⟨rfl, rfl⟩) (by omega) (by omega)) (Wd.u rfl) rfl rfl (fun v79 rd79 => ?_)
                        refine LR.v (Y.nilCheck rfl rfl) (Wd.u rfl) rfl rfl ?_
                        refine LR.nil (hT18 _ ?_)
                        refine LR.s (S.var1 wa 0 ([v79]) rfl rfl rfl (rd79.oneCell) Try.sizeOf22 (by simp) (rfl)) (Wd.u rfl) rfl (fun H18_8 r18_8 => ?_)
                        obtain ⟨wn, hst⟩ := r18_8
                        replace he := he.up hst (fun b _ h1 h2 => by omega)
                        replace ha := ha.up hst (fun b _ h1 h2 => by omega)
                        replace hd := hd.up hst (fun b _ h1 h2 => by omega)
                        replace rd79 := rd79.up hst (fun b _ h1 h2 => by omega)
                        replace ho := (ho.up hst (fun b _ h1 h2 => by omega)).imp (G' := fun b => H3.size < b) (fun b _ e => by omega)
                        replace hs := hs.trans hst (fun _ _ e => e) (fun b hb e => by omega)
                        have hzt := hst.size
                        first | (replace wd := wd.up hst (by omega); replace wa := wn) | (replace wa := wa.up hst (by omega); replace wd := wn)
                        simp only [List.take_length] at rd79
                        refine LR.nil ?_
                        refine hK10 _ _ ?_
                        refine hK9 _ _ ?_
                        refine CW.region ?_
                        refine LR.v (Y.addi rfl rfl rfl (by omega)) (Wd.u rfl) rfl rfl ?_
                        refine LR.v (Y.move rfl rfl) (Wd.u rfl) rfl rfl ?_
                        refine LR.nil ?_
                        rw [app, if_neg (by omega), if_neg (by omega), if_neg (by omega), if_neg c51, if_neg (by omega), if_pos (show es[k].1 = 0 by omega)] at happ
                        refine QN.sub (hN6 (k + 1, es[k].1, v79, vd2, a2.drop es[k].2.toNat, d2, v72, out ++ (a2.take es[k].2.toNat).drop 0) _ ?_ ?_) ⟨rfl, rfl, rfl, rfl, (iv (by omega)), rfl, rfl, (iv (by omega)), (iv (by omega)), trivial⟩
                        · exact ⟨by omega, he, hs, by omega, wa, wd, by first | exact ha | exact rd79, by first | exact rd79 | exact hd, ho, by simp; omega, fun h => absurd h (by omega), fun h _ => by simp, by simpa using happ⟩
                        · show es.length - (k + 1) < es.length - k; omega
                    ·
                      first
                      | exfalso; omega
                      | skip
                        refine CW.skip ?_
                        refine hK30 _ _ ?_
                        refine CW.region_tail 8 rfl (by kernel_rfl) (fun T18 hT18 => ?_)
                        refine LR.v (Y.move rfl rfl) (Wd.u rfl) rfl rfl ?_
                        refine LR.v (Y.move rfl rfl) (Wd.u rfl) rfl rfl ?_
                        refine LR.v (Y.nilCheck rfl rfl) (Wd.u rfl) rfl rfl ?_
                        refine LR.v (Y.load1 wa.pt rfl Try.isAgg22 rfl) (Wd.u rfl) rfl rfl ?_
                        refine LR.v (Y.fieldAddr va10.pt rfl Try.runUnderlying36 rfl rfl Try.sizeOf3 (by decide) rfl) (Wd.u rfl) rfl rfl ?_
                        refine LR.v (Y.load1 (va10.pt.drop 1) rfl Try.isAgg3 rfl) (Wd.u rfl) rfl rfl ?_
                        refine LR.e (g := fun v => v) (Y.slice ha (es[k].2.toNat) (_) rfl Try.runUnderlying22 Try.sizeOf9 rfl (.inr ⟨_, _, _, rfl, rfl, by first | rfl | omega⟩) (.inl ⟨rfl, rfl⟩) (by omega) (by omega)) (Wd.u rfl) rfl rfl (fun v79 rd79 => ?_)
                        refine LR.v (Y.nilCheck rfl rfl) (Wd.u rfl) rfl rfl ?_
                        refine LR.nil (hT18 _ ?_)
                        refine LR.s (S.var1 wa 0 ([v79]) rfl rfl rfl (rd79.oneCell) Try.sizeOf22 (by simp) (rfl)) (Wd.u rfl) rfl (fun H18_8 r18_8 => ?_)
                        obtain ⟨wn, hst⟩ := r18_8
                        replace he := he.up hst (fun b _ h1 h2 => by omega)
                        replace ha := ha.up hst (fun b _ h1 h2 => by omega)
                        replace hd := hd.up hst (fun b _ h1 h2 => by omega)
                        replace rd79 := rd79.up hst (fun b _ h1 h2 => by omega)
                        replace ho := (ho.up hst (fun b _ h1 h2 => by omega)).imp (G' := fun b => H3.size < b) (fun b _ e => by omega)
                        replace hs := hs.trans hst (fun _ _ e => e) (fun b hb e => by omega)
                        have hzt := hst.size
                        first | (replace wd := wd.up hst (by omega); replace wa := wn) | (replace wa := wa.up hst (by omega); replace wd := wn)
                        simp only [List.take_length] at rd79
                        refine LR.nil ?_
                        refine hK10 _ _ ?_
                        refine hK9 _ _ ?_
                        refine CW.region ?_
                        refine LR.v (Y.addi rfl rfl rfl (by omega)) (Wd.u rfl) rfl rfl ?_
                        refine LR.v (Y.move rfl rfl) (Wd.u rfl) rfl rfl ?_
                        refine LR.nil ?_
                        rw [app, if_neg (by omega), if_neg (by omega), if_neg (by omega), if_neg c51, if_neg (by omega), if_neg (show ¬ es[k].1 = 0 by omega)] at happ
                        refine QN.sub (hN6 (k + 1, es[k].1, v79, vd2, a2.drop es[k].2.toNat, d2, vo, out) _ ?_ ?_) ⟨rfl, rfl, rfl, rfl, (iv (by omega)), rfl, rfl, (iv (by omega)), (iv (by omega)), trivial⟩
                        · exact ⟨by omega, he, hs, by omega, wa, wd, by first | exact ha | exact rd79, by first | exact rd79 | exact hd, ho, by simp; omega, fun h => absurd h (by omega), fun h _ => by simp, by simpa using happ⟩
                        · show es.length - (k + 1) < es.length - k; omega
  ·
    rw [List.drop_of_length_le (by omega), app] at happ
    refine CW.exit (hE8 (.exit 0) nofun _ _ (hE6 (.exit 0) nofun _ _ (hX5 _ _ ?_)))
    refine hK3 _ _ ?_
    refine CW.seq (fun K32 hK32 hE32 => ?_)
    refine CW.seq (fun K33 hK33 hE33 => ?_)
    refine CW.region ?_
    refine LR.v (Y.load1 wa.pt rfl Try.isAgg22 rfl) (Wd.u rfl) rfl rfl ?_
    refine LR.v (Y.len ha rfl Try.runUnderlying22 rfl) (Wd.u rfl) rfl rfl ?_
    refine LR.v (Y.gtr rfl rfl rfl) (Wd.u rfl) rfl rfl ?_
    refine LR.v (Y.move rfl rfl) (Wd.u rfl) rfl rfl ?_
    refine LR.splitp (d := 85) rfl (fun g85 => ?_) (fun g85 => ?_)
    ·
      refine LR.gs rfl rfl rfl rfl rfl rfl ?_
      refine LR.gs rfl rfl rfl rfl rfl rfl ?_
      refine LR.gs rfl rfl rfl rfl rfl rfl ?_
      refine LR.v (Y.pick_t rfl rfl rfl) (Wd.u rfl) rfl rfl ?_
      refine LR.nil ?_
      refine hK33 _ _ ?_
      refine CW.cond_t rfl ?_
      refine CW.seq (fun K34 hK34 hE34 => ?_)
      refine CW.region ?_
      refine LR.v (Y.assign rfl rfl) (Wd.u rfl) rfl rfl ?_
      refine LR.v (Y.assign rfl rfl) (Wd.u rfl) rfl rfl ?_
      refine LR.nil ?_
      refine hK34 _ _ ?_
      refine CW.ret (hE32 .ret nofun _ _ (hret .ret (.inr rfl) _ _ _ (res2 rfl rfl rfl) ?_))
      rw [if_pos (.inl (by omega))] at happ
      rw [← happ]
      exact ⟨_, rfl, Rd.nil _ _ _ _, hs⟩
    ·
      refine LR.v (Y.load1 wd.pt rfl Try.isAgg22 rfl) (Wd.g rfl rfl rfl) rfl rfl ?_
      refine LR.v (Y.len hd rfl Try.runUnderlying22 rfl) (Wd.g rfl rfl rfl) rfl rfl ?_
      refine LR.v (Y.gtr rfl rfl rfl) (Wd.g rfl rfl rfl) rfl rfl ?_
      refine LR.v (Y.pick_f rfl rfl rfl) (Wd.u rfl) rfl rfl ?_
      refine LR.nil ?_
      refine hK33 _ _ ?_
      refine CW.condp rfl (fun c89 => ?_) (fun c89 => ?_)
      ·
        refine CW.seq (fun K35 hK35 hE35 => ?_)
        refine CW.region ?_
        refine LR.v (Y.assign rfl rfl) (Wd.u rfl) rfl rfl ?_
        refine LR.v (Y.assign rfl rfl) (Wd.u rfl) rfl rfl ?_
        refine LR.nil ?_
        refine hK35 _ _ ?_
        refine CW.ret (hE32 .ret nofun _ _ (hret .ret (.inr rfl) _ _ _ (res2 rfl rfl rfl) ?_))
        rw [if_pos (.inr (by omega))] at happ
        rw [← happ]
        exact ⟨_, rfl, Rd.nil _ _ _ _, hs⟩
      ·
        refine CW.skip ?_
        refine hK32 _ _ ?_
        refine CW.seq (fun K36 hK36 hE36 => ?_)
        refine CW.region ?_
        refine LR.v (Y.move rfl rfl) (Wd.u rfl) rfl rfl ?_
        -- call slices.Clip[[]string,string]
        refine LR.call rfl Try.call31 rfl (Wd.u rfl) rfl rfl (clip_ct _ _ w0 H1 ho.rd.any) (fun v91 H91 r91 => ?_)
        obtain ⟨hc, rfl⟩ := r91
        refine LR.v (Y.assign rfl rfl) (Wd.u rfl) rfl rfl ?_
        refine LR.v (Y.assign rfl rfl) (Wd.u rfl) rfl rfl ?_
        refine LR.nil ?_
        refine hK36 _ _ ?_
        refine CW.ret (hret .ret (.inr rfl) _ _ _ (res2 rfl rfl rfl) ?_)
        rw [if_neg (by omega)] at happ
        rw [← happ]
        exact ⟨_, rfl, hc, hs⟩

end Go.Proofs.Ytkofoccjnoenlaa.LinI
