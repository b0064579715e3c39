/-
  Files such as a tree may have.
-/
import Derived.Test.YtclhnkmkejijjaaRenL
namespace Go.Proofs.Ytclhnkmkejijjaa.RenM
open Go.Proofs.Ytclhnkmkejijjaa.E Go.RowKit Go.Proofs.Ytclhnkmkejijjaa.RenA Go.Proofs.Ytclhnkmkejijjaa.RenB Go.Proofs.Ytclhnkmkejijjaa.RenC Go.Proofs.Ytclhnkmkejijjaa.RenD Go.Proofs.Ytclhnkmkejijjaa.RenE Go.Proofs.Ytclhnkmkejijjaa.RenF Go.Proofs.Ytclhnkmkejijjaa.RenG Go.Proofs.Ytclhnkmkejijjaa.RenH Go.Proofs.Ytclhnkmkejijjaa.RenI Go.Proofs.Ytclhnkmkejijjaa.RenL
set_option maxRecDepth 20000
set_option linter.unusedVariables false
set_option linter.unusedSimpArgs false
set_option linter.unusedSectionVars false
set_option maxRecDepth 100000 in
theorem inf26 : Inf Try.prog 26 35 3 48 := ⟨Try.underlying26, _, _, rfl, rfl, rfl, rfl, rfl⟩

theorem vlenF {F : Nat → Prop} {H : Heap} {x : Fl} (h : FlR F H x) : x.v.len = x.d.length := by
  obtain ⟨a, cap, hv, _⟩ := h.d.ex
  have := congrArg (fun v => match v with | .slice _ l _ => l | _ => 0) hv
  simpa using this
/-- the kind that a file gets -/
def gk (k : Int) : Int := 1 + (IntKind.i64.wrap (k - 1)) % 3
theorem gk_rng (k : Int) : 1 ≤ gk k ∧ gk k ≤ 3 := by unfold gk; have h1 := Int.emod_nonneg (IntKind.i64.wrap (k - 1)) (show (3 : Int) ≠ 0 by decide); have h2 := Int.emod_lt_of_pos (IntKind.i64.wrap (k - 1)) (show (0 : Int) < 3 by decide); omega
def gf (x : Fc) : Fc := (x.1, gk x.2.1, x.2.2.take 2000)
/-- does a path fit beside others? -/
def fitsC (out : List Fc) (p : List UInt8) : Bool := out.all (fun y => decide (y.1 ≠ p) && !(belowL y.1 p) && !(belowL p y.1))
def placeC (p : List UInt8) : List Fc → Nat
  | [] => 0
  | y :: l => if Op.bytesLess y.1 p = true then placeC p l + 1 else 0
def goodStep (out : List Fc) (x : Fc) : List Fc := if chkF (gf x) ≠ 0 then out else if fitsC out x.1 = true then out.take (placeC x.1 out) ++ gf x :: out.drop (placeC x.1 out) else out
def goodC (l : List Fc) : List Fc := (l.take 40).foldl goodStep []
theorem goodC_step {l : List Fc} {i : Nat} (hi : i < l.length) (h40 : i < 40) : ((l.take 40).take (i + 1)).foldl goodStep [] = goodStep (((l.take 40).take i).foldl goodStep []) l[i] := by
  have h1 : i < (l.take 40).length := by rw [List.length_take]; omega
  rw [List.take_succ_eq_append_getElem h1, List.foldl_append, List.getElem_take]; rfl
theorem placeC_at {p : List UInt8} : ∀ {l : List Fc} {k : Nat} (hk : k ≤ l.length) (h1 : ∀ q (h : q < l.length), q < k → Op.bytesLess l[q].1 p = true) (h2 : ∀ h : k < l.length, Op.bytesLess l[k].1 p = false), placeC p l = k
  | [], k, hk, _, _ => by simp at hk; simp [placeC, hk]
  | y :: l, 0, _, _, h2 => by rw [placeC, if_neg]; have := h2 (by simp); simp at this; simp [this]
  | y :: l, k + 1, hk, h1, h2 => by
    have h0 := h1 0 (by simp) (by omega)
    simp only [List.getElem_cons_zero] at h0
    rw [placeC, if_pos h0, placeC_at (l := l) (k := k) (by simpa using hk) (fun q h h3 => by have := h1 (q + 1) (by simpa using h) (by omega); simpa using this) (fun h => by have := h2 (by simpa using h); simpa using this)]
structure FlsR (F : Nat → Prop) (H : Heap) (l : List Fl) : Prop where
  all : ∀ x ∈ l, FlR F H x
theorem FlsR.nw {F : Nat → Prop} {H H' : Heap} {l : List Fl} (h : FlsR F H l) (s : Nw H H') : FlsR F H' l := ⟨fun x hx => (h.all x hx).nw s⟩
theorem FlsR.nil (F : Nat → Prop) (H : Heap) : FlsR F H [] := ⟨fun x hx => by cases hx⟩

theorem withinE_ct (at0 n : Int) (w0 : World) (H0 : Heap)
    (hn : 0 < n) (hn2 : n ≤ 1099511627776) :
    Ct Try.prog w0 25 #[.int .i64 at0, .int .i64 n] H0 (fun r H2 => r = .int .i64 (at0 % n) ∧ Nw H0 H2) := by
  refine Ct.enter (args := [.int .i64 at0, .int .i64 n]) Try.func25 rfl rfl rfl ?_
  intro Q0 hret
  have hm0 : Nw H0 H0 := Mo.refl _ _
  have h1 := Int.emod_nonneg at0 (show n ≠ 0 by omega)
  have h2 := Int.emod_lt_of_pos at0 hn
  have h3 : at0.tmod n = at0 % n ∨ at0.tmod n + n = at0 % n ∧ at0.tmod n < 0 := by
    rw [Int.tmod_eq_emod]
    split
    · left; omega
    · rename_i hh; right; have := Int.natAbs_of_nonneg (show 0 ≤ n by omega); omega
  refine CW.seq (fun K1 hK1 hE1 => ?_)
  refine CW.region ?_
  refine LR.v (Y.assign rfl rfl) (Wd.u rfl) rfl rfl ?_
  refine LR.nil ?_
  refine hK1 _ _ ?_
  refine CW.seq (fun K2 hK2 hE2 => ?_)
  refine CW.region ?_
  refine LR.v (Y.move rfl rfl) (Wd.u rfl) rfl rfl ?_
  refine LR.v (Y.move rfl rfl) (Wd.u rfl) rfl rfl ?_
  refine LR.v (Y.rem rfl rfl rfl (by omega)) (Wd.u rfl) rfl rfl ?_
  refine LR.v (Y.assign rfl rfl) (Wd.u rfl) rfl rfl ?_
  refine LR.nil ?_
  refine hK2 _ _ ?_
  refine CW.seq (fun K3 hK3 hE3 => ?_)
  refine CW.seq (fun K4 hK4 hE4 => ?_)
  refine CW.region ?_
  refine LR.v (Y.move rfl rfl) (Wd.u rfl) rfl rfl ?_
  refine LR.v (Y.lss rfl rfl rfl) (Wd.u rfl) rfl rfl ?_
  refine LR.nil ?_
  refine hK4 _ _ ?_
  refine CW.condp rfl (fun c10 => ?_) (fun c10 => ?_)
  ·
    refine CW.region ?_
    refine LR.v (Y.move rfl rfl) (Wd.u rfl) rfl rfl ?_
    refine LR.v (Y.move rfl rfl) (Wd.u rfl) rfl rfl ?_
    refine LR.v (Y.addi rfl rfl rfl (by omega)) (Wd.u rfl) rfl rfl ?_
    refine LR.v (Y.assign rfl rfl) (Wd.u rfl) rfl rfl ?_
    refine LR.nil ?_
    refine hK3 _ _ ?_
    refine CW.seq (fun K5 hK5 hE5 => ?_)
    refine CW.region ?_
    refine LR.v (Y.move rfl rfl) (Wd.u rfl) rfl rfl ?_
    refine LR.v (Y.assign rfl rfl) (Wd.u rfl) rfl rfl ?_
    refine LR.nil ?_
    refine hK5 _ _ ?_
    refine CW.ret (hret .ret (.inr rfl) _ _ _ (res1 rfl rfl) ?_)
    exact ⟨by exact ivv (by omega), hm0⟩
  ·
    refine CW.skip ?_
    refine hK3 _ _ ?_
    refine CW.seq (fun K6 hK6 hE6 => ?_)
    refine CW.region ?_
    refine LR.v (Y.move rfl rfl) (Wd.u rfl) rfl rfl ?_
    refine LR.v (Y.assign rfl rfl) (Wd.u rfl) rfl rfl ?_
    refine LR.nil ?_
    refine hK6 _ _ ?_
    refine CW.ret (hret .ret (.inr rfl) _ _ _ (res1 rfl rfl) ?_)
    exact ⟨by exact ivv (by omega), hm0⟩


theorem goodStep_bad {out : List Fc} {x : Fc} (h : chkF (gf x) ≠ 0) : goodStep out x = out := if_pos h
theorem goodStep_no {out : List Fc} {x : Fc} (h : fitsC out x.1 = false) : goodStep out x = out := by
  unfold goodStep
  split
  · rfl
  · rw [if_neg (by simp [h])]
theorem goodStep_yes {out : List Fc} {x : Fc} (h : ¬ chkF (gf x) ≠ 0) (h2 : fitsC out x.1 = true) : goodStep out x = out.take (placeC x.1 out) ++ gf x :: out.drop (placeC x.1 out) := by
  unfold goodStep
  rw [if_neg h, if_pos h2]
theorem fitsC_step {l : List Fc} {j : Nat} (hj : j < l.length) (p : List UInt8) : fitsC (l.take (j + 1)) p = (fitsC (l.take j) p && (decide (l[j].1 ≠ p) && !(belowL l[j].1 p) && !(belowL p l[j].1))) := by
  unfold fitsC
  rw [List.take_succ_eq_append_getElem hj, List.all_append]; simp
theorem goodC_len : ∀ (l out : List Fc), (l.foldl goodStep out).length ≤ out.length + l.length
  | [], out => by simp
  | x :: l, out => by
    have h1 := goodC_len l (goodStep out x)
    have h2 : (goodStep out x).length ≤ out.length + 1 := by
      unfold goodStep
      split
      · omega
      · split
        · simp; omega
        · omega
    rw [List.foldl_cons, List.length_cons]; omega

set_option maxHeartbeats 8000000 in
theorem good_ct (v : Value) (l : List Fl) (w0 : World) (H0 : Heap)
    (hl : RdT H0 fFl 3 v l) (hx : ∀ x ∈ l, FlR (fun _ => True) H0 x) (hb : ∀ x ∈ l, x.p.length ≤ 1099511627776) :
    Ct Try.prog w0 13 #[v] H0 (fun r H2 => ∃ vr : Value, ∃ kr : Nat, ∃ gl : List Fl, r = vr ∧ (Ow kr 35 H2 fFl 3 vr gl) ∧ (Nx 0 H0.size kr) ∧ (gl.map Fl.c = goodC (l.map Fl.c)) ∧ (∀ x ∈ gl, FlR (fun b => True ∧ b < H0.size) H2 x) ∧ (BF (fun b => True ∧ b < H0.size) H2.size) ∧ Nw H0 H2) := by
  refine Ct.enter (args := [v]) Try.func13 rfl rfl rfl ?_
  intro Q0 hret
  have hm0 : Nw H0 H0 := Mo.refl _ _
  replace hl := hl.bnd
  have bf_hl := Rd.bf hl
  replace hx := fun x hx0 => (hx x hx0).bnd
  have bf_hx : BF (fun b => True ∧ b < H0.size) H0.size := fun b h => h.2
  have hlm := hl.len
  have hx9 := hx
  refine CW.seq (fun K1 hK1 hE1 => ?_)
  refine CW.region ?_
  refine LR.v (Y.assign rfl rfl) (Wd.u rfl) rfl rfl ?_
  refine LR.nil ?_
  refine hK1 _ _ ?_
  refine CW.seq (fun K2 hK2 hE2 => ?_)
  refine CW.region ?_
  refine LR.v (Y.assign rfl rfl) (Wd.u rfl) rfl rfl ?_
  refine LR.nil ?_
  refine hK2 _ _ ?_
  refine CW.seq (fun K3 hK3 hE3 => ?_)
  refine CW.seq (fun K4 hK4 hE4 => ?_)
  refine CW.region ?_
  refine LR.v (Y.assign rfl rfl) (Wd.u rfl) rfl rfl ?_
  refine LR.nil ?_
  refine hK4 _ _ ?_
  refine CW.block (fun K5 hK5 hX5 hE5 => ?_)
  refine CW.loop (fun (s_ : (Nat) × (Value) × (Nat) × (List Fl)) => match s_ with | (i, vo, ko, out) => [(0, v), (3, vo), (4, .int .i64 i)])
    (fun (s_ : (Nat) × (Value) × (Nat) × (List Fl)) (H : Heap) => match s_ with | (i, vo, ko, out) => (i ≤ l.length) ∧ (i ≤ 40) ∧ (Ow ko 35 H fFl 3 vo out) ∧ ((((l.map Fl.c).take 40).take i).foldl goodStep [] = out.map Fl.c) ∧ (∀ x ∈ out, FlR (fun b => True ∧ b < H0.size) H0 x) ∧ (∀ x ∈ out, x.p.length ≤ 1099511627776) ∧ (out.length ≤ i) ∧ (Nx 0 H0.size ko) ∧ Nw H0 H)
    (fun (s_ : (Nat) × (Value) × (Nat) × (List Fl)) => match s_ with | (i, vo, ko, out) => l.length - i) (0, .slice none 0 0, 0, []) ⟨rfl, rfl, rfl, trivial⟩ ?_ ?_
  ·
    exact ⟨(by omega), (by omega), Ow.nil fFl_len fFl_one, rfl, (fun x h => by cases h), (fun x h => by cases h), (by simp), Nx.refl _ _, Mo.refl _ _⟩
  rintro ⟨i, vo, ko, out⟩ HL1 hI1 K6 hN6 hE6
  obtain ⟨hi, h40, ow, he, hox, hop, hol, nxl_ow, hlm1⟩ := hI1
  have df1 := DF.app (DF.z) (bf_hl.mono hm0.size) nxl_ow
  have df2 := DF.app (DF.z) (bf_hx.mono hm0.size) nxl_ow
  have nx3 : Nx 0 H0.size ko := Nx.tr (Nx.refl 0 _) nxl_ow hm0.size
  replace hl := hl.nw hlm1
  replace hx := fun x hx0 => (hx x hx0).nw hlm1
  replace hm0 := hm0.tr hlm1
  have hz1 := hlm1.size
  have hle_ow := ow.le
  have nx4 := nxl_ow
  refine CW.seq (fun K7 hK7 hE7 => ?_)
  refine CW.seq (fun K8 hK8 hE8 => ?_)
  refine CW.region ?_
  refine LR.v (Y.move rfl rfl) (Wd.u rfl) rfl rfl ?_
  refine LR.v (Y.move rfl rfl) (Wd.u rfl) rfl rfl ?_
  refine LR.v (Y.len hl rfl Try.runUnderlying26 rfl) (Wd.u rfl) rfl rfl ?_
  refine LR.v (Y.lss rfl rfl rfl) (Wd.u rfl) rfl rfl ?_
  refine LR.v (Y.move rfl rfl) (Wd.u rfl) rfl rfl ?_
  refine LR.splitp (d := 14) rfl (fun g14 => ?_) (fun g14 => ?_)
  ·
    refine LR.v (Y.move rfl rfl) (Wd.g rfl rfl rfl) rfl rfl ?_
    refine LR.v (Y.lss rfl rfl rfl) (Wd.g rfl rfl rfl) rfl rfl ?_
    refine LR.v (Y.pick_t rfl rfl rfl) (Wd.u rfl) rfl rfl ?_
    refine LR.nil ?_
    refine hK8 _ _ ?_
    refine CW.condp rfl (fun c17 => ?_) (fun c17 => ?_)
    ·
      refine CW.skip ?_
      refine hK7 _ _ ?_
      refine CW.seq (fun K9 hK9 hE9 => ?_)
      refine CW.block (fun K10 hK10 hX10 hE10 => ?_)
      refine CW.seq (fun K11 hK11 hE11 => ?_)
      refine CW.region ?_
      refine LR.v (Y.move rfl rfl) (Wd.u rfl) rfl rfl ?_
      refine LR.v (Y.move rfl rfl) (Wd.u rfl) rfl rfl ?_
      have hil : i < l.length := by omega
      have hilc : i < (l.map Fl.c).length := by simpa using hil
      have hlc : (l.map Fl.c)[i] = l[i].c := by simp
      have hmi := hx9 l[i] (List.getElem_mem hil)
      have hpi := hb l[i] (List.getElem_mem hil)
      have hgk := gk_rng l[i].k
      refine LR.e (g := fun ad => .pointer (some ad)) (Y.indexAddrF hl (i) rfl Try.runUnderlying26 Try.sizeOf35 rfl rfl (by first | rfl | omega) (by first | omega | (simp; omega) | (simp; done))) (Wd.u rfl) rfl rfl (fun ad22 pt22 => ?_)
      have bf_pt22 := bf_hl
      refine LR.v (Y.loadN pt22.pt rfl Try.isAgg35 Try.sizeOf35 (rfl) rfl) (Wd.u rfl) rfl rfl ?_
      refine LR.z (Z.allocv rfl Try.zeroValue35) (Wd.u rfl) rfl rfl (fun v5 H5 r5 => ?_)
      obtain ⟨rfl, vf, hs5, ob5, hH5⟩ := r5
      have hzs5 : H5.size = HL1.size + 1 := by rw [hH5]; simp
      have df5 := (DF.new (bf_hl.mono hm0.size) : DF _ (HL1.size + 1))
      have df6 := (DF.new (bf_hx.mono hm0.size) : DF _ (HL1.size + 1))
      have dj7 : Dj ko (HL1.size + 1) := Dj.new ow.le
      have df8 := (DF.new (bf_pt22.mono hm0.size) : DF _ (HL1.size + 1))
      have nx9 : Nx 0 H0.size (HL1.size + 1) := Nx.new hm0.size
      have nx10 : Nx 0 H0.size (HL1.size + 1) := Nx.new hlm1.size
      replace hl := hl.nw hs5
      replace hx := fun x hx0 => (hx x hx0).nw hs5
      replace ow := ow.nw hs5
      replace pt22 := pt22.nw hs5
      replace hm0 := hm0.tr hs5
      replace hlm1 := hlm1.tr hs5
      have hz2 := hs5.size
      refine LR.s (S.var vf (_) (fFl l[i]) rfl rfl rfl rfl (fFl_one l[i]) Try.sizeOf35 (rfl) (Nat.le_of_ble_eq_true rfl) (rfl)) (Wd.u rfl) rfl (fun H5_5 r5_5 => ?_)
      obtain ⟨vf, hs5_5⟩ := r5_5
      replace hs5_5 := hs5_5.md1
      replace hl := hl.upL hs5_5 (DFL.cons df5 DFL.nil)
      replace hx := fun x hx0 => (hx x hx0).upL hs5_5 (DFL.cons df6 DFL.nil)
      replace ow := ow.upL hs5_5 (DL.cons dj7 DL.nil)
      replace pt22 := pt22.upL hs5_5 (DFL.cons df8 DFL.nil)
      replace hm0 := (Mo.trL (ks := []) (hm0.mdn []) hs5_5 (MIL.cons (MI.app MI.z (nx9) (Nat.le_refl _)) MIL.nil)).nil
      replace hlm1 := (Mo.trL (ks := []) (hlm1.mdn []) hs5_5 (MIL.cons (MI.app MI.z (nx10) (Nat.le_refl _)) MIL.nil)).nil
      have hz3 := hs5_5.size
      refine LR.nil ?_
      refine hK11 _ _ ?_
      refine CW.seq (fun K12 hK12 hE12 => ?_)
      refine CW.region ?_
      refine LR.v (Y.fieldAddr vf.pt rfl Try.runUnderlying35 rfl rfl Try.sizeOf3 (by decide) rfl) (Wd.u rfl) rfl rfl ?_
      refine LR.v (Y.load1 (vf.pt.drop 1) rfl Try.isAgg3 rfl) (Wd.u rfl) rfl rfl ?_
      refine LR.v (Y.sub rfl rfl rfl) (Wd.u rfl) rfl rfl ?_
      -- call selvage/selvagelaw15.within
      refine LR.call rfl Try.call25 rfl (Wd.u rfl) rfl rfl (withinE_ct (IntKind.i64.wrap (l[i].k - 1)) 3 w0 _ (by decide) (by decide)) (fun v27 H27 r27 => ?_)
      obtain ⟨rfl, hs27⟩ := r27
      replace hl := hl.nw hs27
      replace hx := fun x hx0 => (hx x hx0).nw hs27
      replace ow := ow.nw hs27
      replace vf := vf.nw hs27
      replace hm0 := hm0.tr hs27
      replace hlm1 := hlm1.tr hs27
      have hz4 := hs27.size
      refine LR.v (Y.cast (v2 := .int .i64 (gk l[i].k)) (Y.addi rfl rfl rfl (by unfold gk at hgk; omega)) (rfl)) (Wd.u rfl) rfl rfl ?_
      refine LR.v (Y.fieldAddr vf.pt rfl Try.runUnderlying35 rfl rfl Try.sizeOf3 (by decide) rfl) (Wd.u rfl) rfl rfl ?_
      refine LR.s (S.var1 vf 1 (_) rfl rfl rfl (rfl) Try.sizeOf3 (by simp) (rfl)) (Wd.u rfl) rfl (fun H6_6 r6_6 => ?_)
      obtain ⟨vf, hs6_6⟩ := r6_6
      replace hs6_6 := hs6_6.md1
      replace hl := hl.upL hs6_6 (DFL.cons df5 DFL.nil)
      replace hx := fun x hx0 => (hx x hx0).upL hs6_6 (DFL.cons df6 DFL.nil)
      replace ow := ow.upL hs6_6 (DL.cons dj7 DL.nil)
      replace hm0 := (Mo.trL (ks := []) (hm0.mdn []) hs6_6 (MIL.cons (MI.app MI.z (nx9) (Nat.le_refl _)) MIL.nil)).nil
      replace hlm1 := (Mo.trL (ks := []) (hlm1.mdn []) hs6_6 (MIL.cons (MI.app MI.z (nx10) (Nat.le_refl _)) MIL.nil)).nil
      have hz5 := hs6_6.size
      refine LR.nil ?_
      refine hK12 _ _ ?_
      refine CW.cut (fun (y : (Fl)) => [(0, v), (3, vo), (4, .int .i64 i), (5, .pointer (some ⟨HL1.size, 0, none⟩))])
        (fun (y : (Fl)) (H : Heap) => (Var 35 H HL1.size (fFl y)) ∧ (FlR (fun b => True ∧ b < H0.size) H0 y) ∧ (y.c = gf l[i].c) ∧ (y.p.length ≤ 1099511627776) ∧ Mo (Ms [(HL1.size + 1)]) H6_6 H) (fun K13 hK13 hE13 => ?_) ?_
      ·
        have hcm13 : Mo (Ms [(HL1.size + 1)]) H6_6 H6_6 := Mo.refl _ _
        have nx_hcm13_vf := Nx.refl (HL1.size + 1) H6_6.size
        refine CW.seq (fun K14 hK14 hE14 => ?_)
        refine CW.region ?_
        refine LR.v (Y.fieldAddr vf.pt rfl Try.runUnderlying35 rfl rfl Try.sizeOf22 (by decide) rfl) (Wd.u rfl) rfl rfl ?_
        refine LR.v (Y.load1 (vf.pt.drop 2) rfl Try.isAgg22 rfl) (Wd.u rfl) rfl rfl ?_
        refine LR.v (Y.cast (v2 := .int .i64 l[i].d.length) (Y.lenv rfl Try.runUnderlying22 rfl) (by rw [← vlenF hmi])) (Wd.u rfl) rfl rfl ?_
        refine LR.v (Y.gtr rfl rfl rfl) (Wd.u rfl) rfl rfl ?_
        refine LR.nil ?_
        refine hK14 _ _ ?_
        refine CW.condp rfl (fun c33 => ?_) (fun c33 => ?_)
        ·
          refine CW.region ?_
          refine LR.v (Y.fieldAddr vf.pt rfl Try.runUnderlying35 rfl rfl Try.sizeOf22 (by decide) rfl) (Wd.u rfl) rfl rfl ?_
          refine LR.v (Y.load1 (vf.pt.drop 2) rfl Try.isAgg22 rfl) (Wd.u rfl) rfl rfl ?_
          refine LR.e (g := fun v => v) (Y.slice hmi.d (0) (2000) rfl Try.runUnderlying22 Try.sizeOf5 rfl (.inl ⟨rfl, rfl⟩) (.inr ⟨_, _, _, rfl, rfl, by first | rfl | omega⟩) (by omega) (by omega)) (Wd.u rfl) rfl rfl (fun v36 rd36 => ?_)
          obtain ⟨s36, rfl⟩ : ∃ s : SV, v36 = s.v := ⟨toSV v36, rd36.sv.symm⟩
          refine LR.v (Y.fieldAddr vf.pt rfl Try.runUnderlying35 rfl rfl Try.sizeOf22 (by decide) rfl) (Wd.u rfl) rfl rfl ?_
          refine LR.s (S.var1 vf 2 (_) rfl rfl rfl (rfl) Try.sizeOf22 (by simp) (rfl)) (Wd.u rfl) rfl (fun H8_4 r8_4 => ?_)
          obtain ⟨vf, hs8_4⟩ := r8_4
          replace hs8_4 := hs8_4.md1
          replace hl := hl.upL hs8_4 (DFL.cons df5 DFL.nil)
          replace hx := fun x hx0 => (hx x hx0).upL hs8_4 (DFL.cons df6 DFL.nil)
          replace ow := ow.upL hs8_4 (DL.cons dj7 DL.nil)
          replace hm0 := (Mo.trL (ks := []) (hm0.mdn []) hs8_4 (MIL.cons (MI.app MI.z (nx9) (Nat.le_refl _)) MIL.nil)).nil
          replace hlm1 := (Mo.trL (ks := []) (hlm1.mdn []) hs8_4 (MIL.cons (MI.app MI.z (nx10) (Nat.le_refl _)) MIL.nil)).nil
          replace hcm13 := hcm13.trL hs8_4 (MIL.cons (MI.app (MI.root (by simp)) (nx_hcm13_vf) (Nat.le_refl _)) MIL.nil)
          have hz6 := hs8_4.size
          refine LR.nil ?_
          refine QN.sub (hK13 ⟨l[i].p, gk l[i].k, l[i].d.take 2000, s36⟩ _ ?_) ⟨rfl, rfl, (iv (by omega)), rfl, trivial⟩
          exact ⟨vf, ⟨by simpa using rd36, by simp only; omega⟩, rfl, hpi, hcm13⟩
        ·
          refine CW.skip ?_
          refine QN.sub (hK13 ⟨l[i].p, gk l[i].k, l[i].d, l[i].v⟩ _ ?_) ⟨rfl, rfl, (iv (by omega)), rfl, trivial⟩
          exact ⟨vf, ⟨hmi.d, by simp only; omega⟩, by simp only [gf, Fl.c]; rw [List.take_of_length_le (by omega)], hpi, hcm13⟩
      ·
        intro y Hcutc33 hIcutc33
        obtain ⟨vf, hy, hyc, hyp, hlmcutc33⟩ := hIcutc33
        replace hl := hl.upL hlmcutc33 (DFL.cons df5 DFL.nil)
        replace hx := fun x hx0 => (hx x hx0).upL hlmcutc33 (DFL.cons df6 DFL.nil)
        replace ow := ow.upL hlmcutc33 (DL.cons dj7 DL.nil)
        replace hm0 := (Mo.trL (ks := []) (hm0.mdn []) hlmcutc33 (MIL.cons (MI.app MI.z (nx9) (Nat.le_refl _)) MIL.nil)).nil
        replace hlm1 := (Mo.trL (ks := []) (hlm1.mdn []) hlmcutc33 (MIL.cons (MI.app MI.z (nx10) (Nat.le_refl _)) MIL.nil)).nil
        have hz7 := hlmcutc33.size
        have nx_hlmcutc33_vf := Nx.refl (HL1.size + 1) H6_6.size
        refine CW.seq (fun K15 hK15 hE15 => ?_)
        refine CW.seq (fun K16 hK16 hE16 => ?_)
        refine CW.region ?_
        refine LR.v (Y.loadN vf.pt rfl Try.isAgg35 Try.sizeOf35 (rfl) rfl) (Wd.u rfl) rfl rfl ?_
        refine LR.z (Z.litw _ ([y]) rfl inf26 rfl rfl rfl (by decide) (by decide) fFl_len fFl_one (rfl)) (Wd.u rfl) rfl rfl (fun v39 H39 r39 => ?_)
        obtain ⟨nw39, hs39, ob39, hH39⟩ := r39
        have hzs39 : H39.size = Hcutc33.size + 1 := by rw [hH39]; simp
        have df11 := (DF.new (bf_hl.mono hm0.size) : DF _ (Hcutc33.size + 1))
        have df12 := (DF.new (bf_hx.mono hm0.size) : DF _ (Hcutc33.size + 1))
        have dj13 : Dj ko (Hcutc33.size + 1) := Dj.new ow.le
        have dj14 : Dj (HL1.size + 1) (Hcutc33.size + 1) := Dj.new vf.lt
        have nx15 : Nx 0 H0.size (Hcutc33.size + 1) := Nx.new hm0.size
        have nx16 : Nx 0 H0.size (Hcutc33.size + 1) := Nx.new hlm1.size
        replace hl := hl.nw hs39
        replace hx := fun x hx0 => (hx x hx0).nw hs39
        replace ow := ow.nw hs39
        replace vf := vf.nw hs39
        replace hm0 := hm0.tr hs39
        replace hlm1 := hlm1.tr hs39
        have hz8 := hs39.size
        -- call selvage/selvageref15.Check
        refine LR.call rfl Try.call26 rfl (Wd.u rfl) rfl rfl (check1_ct _ y w0 _ nw39.rd.any hyp (vlenF hy)) (fun v40 H40 r40 => ?_)
        obtain ⟨rfl, hs40⟩ := r40
        replace hl := hl.nw hs40
        replace hx := fun x hx0 => (hx x hx0).nw hs40
        replace ow := ow.nw hs40
        replace vf := vf.nw hs40
        replace nw39 := nw39.nw hs40
        replace hm0 := hm0.tr hs40
        replace hlm1 := hlm1.tr hs40
        have hz9 := hs40.size
        refine LR.v (Y.neq rfl rfl rfl) (Wd.u rfl) rfl rfl ?_
        refine LR.nil ?_
        refine hK16 _ _ ?_
        refine CW.condp rfl (fun c41 => ?_) (fun c41 => ?_)
        ·
          have hchk : chkF (gf l[i].c) ≠ 0 := by rw [← hyc]; simpa using c41
          refine CW.exit (hE15 (.exit 1) nofun _ _ (hX10 _ _ ?_))
          refine hK9 _ _ ?_
          refine CW.region ?_
          refine LR.v (Y.move rfl rfl) (Wd.u rfl) rfl rfl ?_
          refine LR.v (Y.addi rfl rfl rfl (by omega)) (Wd.u rfl) rfl rfl ?_
          refine LR.v (Y.assign rfl rfl) (Wd.u rfl) rfl rfl ?_
          refine LR.nil ?_
          refine QN.sub (hN6 (i + 1, vo, ko, out) _ ?_ ?_) ⟨rfl, rfl, (iv (by omega)), trivial⟩
          · exact ⟨(by omega), (by omega), ow, by rw [goodC_step hilc (by omega), he, hlc, goodStep_bad hchk], (by omega), (by omega), (by omega), nx4, hlm1⟩
          · first | omega | (simp only; omega) | (simp; omega)
        ·
          have hchk : ¬ chkF (gf l[i].c) ≠ 0 := by rw [← hyc]; simpa using c41
          have hy1 : y.p = l[i].c.1 := congrArg Prod.fst hyc
          refine CW.skip ?_
          refine hK15 _ _ ?_
          refine CW.seq (fun K17 hK17 hE17 => ?_)
          refine CW.region ?_
          refine LR.v (Y.assign rfl rfl) (Wd.u rfl) rfl rfl ?_
          refine LR.nil ?_
          refine hK17 _ _ ?_
          refine CW.seq (fun K18 hK18 hE18 => ?_)
          refine CW.region ?_
          refine LR.v (Y.assign rfl rfl) (Wd.u rfl) rfl rfl ?_
          refine LR.nil ?_
          refine hK18 _ _ ?_
          refine CW.cut (fun (k : (Nat)) => [(0, v), (3, vo), (4, .int .i64 i), (5, .pointer (some ⟨HL1.size, 0, none⟩)), (6, .bool true), (7, .int .i64 k)])
            (fun (k : (Nat)) (H : Heap) => (k ≤ out.length) ∧ (placeC y.p (out.map Fl.c) = k) ∧ Nw H40 H) (fun K19 hK19 hE19 => ?_) ?_
          ·
            have hcm19 : Nw H40 H40 := Mo.refl _ _
            refine CW.block (fun K20 hK20 hX20 hE20 => ?_)
            refine CW.loop (fun (k : (Nat)) => [(0, v), (3, vo), (4, .int .i64 i), (5, .pointer (some ⟨HL1.size, 0, none⟩)), (6, .bool true), (7, .int .i64 k)])
              (fun (k : (Nat)) (H : Heap) => (k ≤ out.length) ∧ (∀ q (h : q < out.length), q < k → Op.bytesLess out[q].p y.p = true) ∧ Nw H40 H)
              (fun (k : (Nat)) => out.length - k) 0 ⟨rfl, rfl, rfl, rfl, rfl, rfl, trivial⟩ ?_ ?_
            ·
              exact ⟨(by omega), (fun q h h2 => absurd h2 (Nat.not_lt_zero _)), Mo.refl _ _⟩
            intro k HL2 hI2 K21 hN21 hE21
            obtain ⟨hk, hlt, hlm2⟩ := hI2
            replace hl := hl.nw hlm2
            replace hx := fun x hx0 => (hx x hx0).nw hlm2
            replace ow := ow.nw hlm2
            replace vf := vf.nw hlm2
            replace hm0 := hm0.tr hlm2
            replace hlm1 := hlm1.tr hlm2
            replace hcm19 := hcm19.tr hlm2
            have hz10 := hlm2.size
            refine CW.seq (fun K22 hK22 hE22 => ?_)
            refine CW.seq (fun K23 hK23 hE23 => ?_)
            refine CW.region_draw rfl (by kernel_rfl) ?_
            refine LR.v (Y.move rfl rfl) (Wd.u rfl) rfl rfl ?_
            refine LR.v (Y.move rfl rfl) (Wd.u rfl) rfl rfl ?_
            refine LR.v (Y.len ow.rd rfl Try.runUnderlying26 rfl) (Wd.u rfl) rfl rfl ?_
            refine LR.v (Y.lss rfl rfl rfl) (Wd.u rfl) rfl rfl ?_
            refine LR.v (Y.move rfl rfl) (Wd.u rfl) rfl rfl ?_
            refine LR.splitp (d := 46) rfl (fun g46 => ?_) (fun g46 => ?_)
            ·
              refine LR.v (Y.move rfl rfl) (Wd.g rfl rfl rfl) rfl rfl ?_
              refine LR.v (Y.move rfl rfl) (Wd.g rfl rfl rfl) rfl rfl ?_
              refine LR.v (Y.owAddr ow (k) rfl Try.runUnderlying26 Try.sizeOf35 rfl rfl (by first | rfl | omega) (by first | omega | (simp; omega) | (simp; done))) (Wd.g rfl rfl rfl) rfl rfl ?_
              refine LR.v (Y.fieldAddr (ow.pt (j := k) (by first | omega | (simp; omega) | (simp; done))) rfl Try.runUnderlying35 rfl rfl Try.sizeOf9 (by decide) rfl) (Wd.g rfl rfl rfl) rfl rfl ?_
              refine LR.v (Y.load1 ((ow.pt (j := k) (by first | omega | (simp; omega) | (simp; done))).drop 0) rfl Try.isAgg9 rfl) (Wd.g rfl rfl rfl) rfl rfl ?_
              refine LR.v (Y.fieldAddr vf.pt rfl Try.runUnderlying35 rfl rfl Try.sizeOf9 (by decide) rfl) (Wd.g rfl rfl rfl) rfl rfl ?_
              refine LR.v (Y.load1 vf.pt rfl Try.isAgg9 rfl) (Wd.g rfl rfl rfl) rfl rfl ?_
              refine LR.v (Y.slss rfl rfl rfl) (Wd.g rfl rfl rfl) rfl rfl ?_
              refine LR.v (Y.pick_t rfl rfl rfl) (Wd.u rfl) rfl rfl ?_
              refine LR.nil ?_
              refine hK23 _ _ ?_
              refine CW.cond rfl (fun c55 => ?_) (fun c55 => ?_)
              ·
                refine CW.skip ?_
                refine hK22 _ _ ?_
                refine CW.block (fun K24 hK24 hX24 hE24 => ?_)
                refine CW.region ?_
                refine LR.v (Y.move rfl rfl) (Wd.u rfl) rfl rfl ?_
                refine LR.v (Y.addi rfl rfl rfl (by omega)) (Wd.u rfl) rfl rfl ?_
                refine LR.v (Y.assign rfl rfl) (Wd.u rfl) rfl rfl ?_
                refine LR.nil ?_
                refine hK24 _ _ ?_
                refine QN.sub (hN21 (k + 1) _ ?_ ?_) ⟨rfl, rfl, (iv (by omega)), rfl, rfl, (iv (by omega)), trivial⟩
                · exact ⟨(by omega), (fun q h h2 => by rcases Nat.lt_succ_iff_lt_or_eq.1 h2 with h5 | rfl; exact hlt q h h5; assumption), hlm2⟩
                · first | omega | (simp only; omega) | (simp; omega)
              ·
                refine CW.exit (hE22 (.exit 2) nofun _ _ (hE21 (.exit 2) nofun _ _ (hX20 _ _ ?_)))
                refine QN.sub (hK19 k _ ?_) ⟨rfl, rfl, (iv (by omega)), rfl, rfl, (iv (by omega)), trivial⟩
                exact ⟨(by omega), placeC_at (by simpa using hk) (fun q h h2 => by simpa using hlt q (by simpa using h) h2) (fun h => by first | (simp at h; omega) | (simpa using c55)), hcm19⟩
            ·
              refine LR.gs rfl rfl rfl rfl rfl rfl ?_
              refine LR.gs rfl rfl rfl rfl rfl rfl ?_
              refine LR.gs rfl rfl rfl rfl rfl rfl ?_
              refine LR.gs rfl rfl rfl rfl rfl rfl ?_
              refine LR.gs rfl rfl rfl rfl rfl rfl ?_
              refine LR.gs rfl rfl rfl rfl rfl rfl ?_
              refine LR.gs rfl rfl rfl rfl rfl rfl ?_
              refine LR.gs rfl rfl rfl rfl rfl rfl ?_
              refine LR.v (Y.pick_f rfl rfl rfl) (Wd.u rfl) rfl rfl ?_
              refine LR.nil ?_
              refine hK23 _ _ ?_
              refine CW.cond_f rfl ?_
              refine CW.exit (hE22 (.exit 2) nofun _ _ (hE21 (.exit 2) nofun _ _ (hX20 _ _ ?_)))
              refine QN.sub (hK19 k _ ?_) ⟨rfl, rfl, (iv (by omega)), rfl, rfl, (iv (by omega)), trivial⟩
              exact ⟨(by omega), placeC_at (by simpa using hk) (fun q h h2 => by simpa using hlt q (by simpa using h) h2) (fun h => by first | (simp at h; omega) | (simpa using c55)), hcm19⟩
          ·
            intro k Hcut2 hIcut2
            obtain ⟨hk, hpl, hlmcut2⟩ := hIcut2
            replace hl := hl.nw hlmcut2
            replace hx := fun x hx0 => (hx x hx0).nw hlmcut2
            replace ow := ow.nw hlmcut2
            replace vf := vf.nw hlmcut2
            replace hm0 := hm0.tr hlmcut2
            replace hlm1 := hlm1.tr hlmcut2
            have hz11 := hlmcut2.size
            refine CW.seq (fun K25 hK25 hE25 => ?_)
            refine CW.seq (fun K26 hK26 hE26 => ?_)
            refine CW.region ?_
            refine LR.v (Y.assign rfl rfl) (Wd.u rfl) rfl rfl ?_
            refine LR.nil ?_
            refine hK26 _ _ ?_
            refine CW.block (fun K27 hK27 hX27 hE27 => ?_)
            refine CW.loop (fun (s_ : (Nat) × (Bool)) => match s_ with | (j, ft) => [(0, v), (3, vo), (4, .int .i64 i), (5, .pointer (some ⟨HL1.size, 0, none⟩)), (6, .bool ft), (7, .int .i64 k), (8, .int .i64 j)])
              (fun (s_ : (Nat) × (Bool)) (H : Heap) => match s_ with | (j, ft) => (j ≤ out.length) ∧ (ft = fitsC ((out.map Fl.c).take j) y.p) ∧ Nw Hcut2 H)
              (fun (s_ : (Nat) × (Bool)) => match s_ with | (j, ft) => out.length - j) (0, true) ⟨rfl, rfl, rfl, rfl, rfl, rfl, rfl, trivial⟩ ?_ ?_
            ·
              exact ⟨(by omega), rfl, Mo.refl _ _⟩
            rintro ⟨j, ft⟩ HL3 hI3 K28 hN28 hE28
            obtain ⟨hj, hft, hlm3⟩ := hI3
            replace hl := hl.nw hlm3
            replace hx := fun x hx0 => (hx x hx0).nw hlm3
            replace ow := ow.nw hlm3
            replace vf := vf.nw hlm3
            replace hm0 := hm0.tr hlm3
            replace hlm1 := hlm1.tr hlm3
            have hz12 := hlm3.size
            refine CW.seq (fun K29 hK29 hE29 => ?_)
            refine CW.seq (fun K30 hK30 hE30 => ?_)
            refine CW.region ?_
            refine LR.v (Y.move rfl rfl) (Wd.u rfl) rfl rfl ?_
            refine LR.v (Y.move rfl rfl) (Wd.u rfl) rfl rfl ?_
            refine LR.v (Y.len ow.rd rfl Try.runUnderlying26 rfl) (Wd.u rfl) rfl rfl ?_
            refine LR.v (Y.lss rfl rfl rfl) (Wd.u rfl) rfl rfl ?_
            refine LR.nil ?_
            refine hK30 _ _ ?_
            refine CW.condp rfl (fun c61 => ?_) (fun c61 => ?_)
            ·
              refine CW.skip ?_
              refine hK29 _ _ ?_
              refine CW.seq (fun K31 hK31 hE31 => ?_)
              refine CW.block (fun K32 hK32 hX32 hE32 => ?_)
              refine CW.region_any (fun Hq => Nw HL3 Hq) [] rfl ?_
              have hqs := Nw.refl HL3
              have hjl : j < out.length := by omega
              have hjc : j < (out.map Fl.c).length := by simpa using hjl
              refine LH.take 0 (by kernel_rfl) rfl (by kernel_rfl) (by kernel_rfl) (by kernel_rfl) (fun Hq hq => Y.move rfl rfl) (Wd.u rfl) rfl rfl hqs ?_
              refine LH.take 1 (by kernel_rfl) rfl (by kernel_rfl) (by kernel_rfl) (by kernel_rfl) (fun Hq hq => Y.move rfl rfl) (Wd.u rfl) rfl rfl hqs ?_
              refine LH.split (d := 65) rfl (fun g65 => ?_) (fun g65 => ?_)
              ·
                refine LH.take 2 (by kernel_rfl) rfl (by kernel_rfl) (by kernel_rfl) (by kernel_rfl) (fun Hq hq => Y.move rfl rfl) (Wd.g rfl rfl rfl) rfl rfl hqs ?_
                refine LH.take 3 (by kernel_rfl) rfl (by kernel_rfl) (by kernel_rfl) (by kernel_rfl) (fun Hq hq => Y.move rfl rfl) (Wd.g rfl rfl rfl) rfl rfl hqs ?_
                refine LH.take 4 (by kernel_rfl) rfl (by kernel_rfl) (by kernel_rfl) (by kernel_rfl) (fun Hq hq => Y.owAddr (ow.nw hq) (j) rfl Try.runUnderlying26 Try.sizeOf35 rfl rfl (by first | rfl | omega) (by first | omega | (simp; omega) | (simp; done))) (Wd.g rfl rfl rfl) rfl rfl hqs ?_
                refine LH.take 5 (by kernel_rfl) rfl (by kernel_rfl) (by kernel_rfl) (by kernel_rfl) (fun Hq hq => Y.fieldAddr ((ow.pt (j := j) (by first | omega | (simp; omega) | (simp; done))).nw hq) rfl Try.runUnderlying35 rfl rfl Try.sizeOf9 (by decide) rfl) (Wd.g rfl rfl rfl) rfl rfl hqs ?_
                refine LH.take 6 (by kernel_rfl) rfl (by kernel_rfl) (by kernel_rfl) (by kernel_rfl) (fun Hq hq => Y.load1 (((ow.pt (j := j) (by first | omega | (simp; omega) | (simp; done))).drop 0).nw hq) rfl Try.isAgg9 rfl) (Wd.g rfl rfl rfl) rfl rfl hqs ?_
                refine LH.take 7 (by kernel_rfl) rfl (by kernel_rfl) (by kernel_rfl) (by kernel_rfl) (fun Hq hq => Y.fieldAddr (vf.pt.nw hq) rfl Try.runUnderlying35 rfl rfl Try.sizeOf9 (by decide) rfl) (Wd.g rfl rfl rfl) rfl rfl hqs ?_
                refine LH.take 8 (by kernel_rfl) rfl (by kernel_rfl) (by kernel_rfl) (by kernel_rfl) (fun Hq hq => Y.load1 (vf.pt.nw hq) rfl Try.isAgg9 rfl) (Wd.g rfl rfl rfl) rfl rfl hqs ?_
                refine LH.take 9 (by kernel_rfl) rfl (by kernel_rfl) (by kernel_rfl) (by kernel_rfl) (fun Hq hq => Y.sneq rfl rfl rfl) (Wd.g rfl rfl rfl) rfl rfl hqs ?_
                refine LH.take 10 (by kernel_rfl) rfl (by kernel_rfl) (by kernel_rfl) (by kernel_rfl) (fun Hq hq => Y.pick_t rfl rfl rfl) (Wd.u rfl) rfl rfl hqs ?_
                refine LH.take 11 (by kernel_rfl) rfl (by kernel_rfl) (by kernel_rfl) (by kernel_rfl) (fun Hq hq => Y.move rfl rfl) (Wd.u rfl) rfl rfl hqs ?_
                refine LH.splitp (d := 75) rfl (fun g75 => ?_) (fun g75 => ?_)
                ·
                  refine LH.take 12 (by kernel_rfl) rfl (by kernel_rfl) (by kernel_rfl) (by kernel_rfl) (fun Hq hq => Y.move rfl rfl) (Wd.g rfl rfl rfl) rfl rfl hqs ?_
                  refine LH.take 13 (by kernel_rfl) rfl (by kernel_rfl) (by kernel_rfl) (by kernel_rfl) (fun Hq hq => Y.move rfl rfl) (Wd.g rfl rfl rfl) rfl rfl hqs ?_
                  refine LH.take 14 (by kernel_rfl) rfl (by kernel_rfl) (by kernel_rfl) (by kernel_rfl) (fun Hq hq => Y.owAddr (ow.nw hq) (j) rfl Try.runUnderlying26 Try.sizeOf35 rfl rfl (by first | rfl | omega) (by first | omega | (simp; omega) | (simp; done))) (Wd.g rfl rfl rfl) rfl rfl hqs ?_
                  refine LH.take 15 (by kernel_rfl) rfl (by kernel_rfl) (by kernel_rfl) (by kernel_rfl) (fun Hq hq => Y.fieldAddr ((ow.pt (j := j) (by first | omega | (simp; omega) | (simp; done))).nw hq) rfl Try.runUnderlying35 rfl rfl Try.sizeOf9 (by decide) rfl) (Wd.g rfl rfl rfl) rfl rfl hqs ?_
                  refine LH.take 16 (by kernel_rfl) rfl (by kernel_rfl) (by kernel_rfl) (by kernel_rfl) (fun Hq hq => Y.load1 (((ow.pt (j := j) (by first | omega | (simp; omega) | (simp; done))).drop 0).nw hq) rfl Try.isAgg9 rfl) (Wd.g rfl rfl rfl) rfl rfl hqs ?_
                  refine LH.take 17 (by kernel_rfl) rfl (by kernel_rfl) (by kernel_rfl) (by kernel_rfl) (fun Hq hq => Y.fieldAddr (vf.pt.nw hq) rfl Try.runUnderlying35 rfl rfl Try.sizeOf9 (by decide) rfl) (Wd.g rfl rfl rfl) rfl rfl hqs ?_
                  refine LH.take 18 (by kernel_rfl) rfl (by kernel_rfl) (by kernel_rfl) (by kernel_rfl) (fun Hq hq => Y.load1 (vf.pt.nw hq) rfl Try.isAgg9 rfl) (Wd.g rfl rfl rfl) rfl rfl hqs ?_
                  refine LH.one (i := 19) (by kernel_rfl) ?_
                  -- call selvage/selvageref15.Below
                  refine LO.call rfl rfl Try.call27 rfl (Wd.g rfl rfl rfl) rfl rfl (below_ct out[j].p y.p w0 _ ⟨hop _ (List.getElem_mem hjl), hyp⟩) (fun v83 H83 r83 => ?_)
                  obtain ⟨rfl, hs83⟩ := r83
                  replace hl := hl.nw hs83
                  replace hx := fun x hx0 => (hx x hx0).nw hs83
                  replace ow := ow.nw hs83
                  replace vf := vf.nw hs83
                  replace hm0 := hm0.tr hs83
                  replace hlm1 := hlm1.tr hs83
                  replace hlm3 := hlm3.tr hs83
                  have hz13 := hs83.size
                  have hq83 := hqs.tr hs83
                  refine ⟨.inr hq83, LH.narrow (SH2 := fun Hq => Nw H83 Hq) (fun Hq hq => hq83.tr hq) ?_⟩
                  have hqn83 := Nw.refl H83
                  refine LH.take 20 (by kernel_rfl) rfl (by kernel_rfl) (by kernel_rfl) (by kernel_rfl) (fun Hq hq => Y.not rfl rfl) (Wd.g rfl rfl rfl) rfl rfl hqn83 ?_
                  refine LH.take 21 (by kernel_rfl) rfl (by kernel_rfl) (by kernel_rfl) (by kernel_rfl) (fun Hq hq => Y.pick_t rfl rfl rfl) (Wd.u rfl) rfl rfl hqn83 ?_
                  refine LH.take 22 (by kernel_rfl) rfl (by kernel_rfl) (by kernel_rfl) (by kernel_rfl) (fun Hq hq => Y.move rfl rfl) (Wd.u rfl) rfl rfl hqn83 ?_
                  refine LH.split (d := 86) rfl (fun g86 => ?_) (fun g86 => ?_)
                  ·
                    refine LH.take 23 (by kernel_rfl) rfl (by kernel_rfl) (by kernel_rfl) (by kernel_rfl) (fun Hq hq => Y.fieldAddr (vf.pt.nw hq) rfl Try.runUnderlying35 rfl rfl Try.sizeOf9 (by decide) rfl) (Wd.g rfl rfl rfl) rfl rfl hqn83 ?_
                    refine LH.take 24 (by kernel_rfl) rfl (by kernel_rfl) (by kernel_rfl) (by kernel_rfl) (fun Hq hq => Y.load1 (vf.pt.nw hq) rfl Try.isAgg9 rfl) (Wd.g rfl rfl rfl) rfl rfl hqn83 ?_
                    refine LH.take 25 (by kernel_rfl) rfl (by kernel_rfl) (by kernel_rfl) (by kernel_rfl) (fun Hq hq => Y.move rfl rfl) (Wd.g rfl rfl rfl) rfl rfl hqn83 ?_
                    refine LH.take 26 (by kernel_rfl) rfl (by kernel_rfl) (by kernel_rfl) (by kernel_rfl) (fun Hq hq => Y.move rfl rfl) (Wd.g rfl rfl rfl) rfl rfl hqn83 ?_
                    refine LH.take 27 (by kernel_rfl) rfl (by kernel_rfl) (by kernel_rfl) (by kernel_rfl) (fun Hq hq => Y.owAddr (ow.nw hq) (j) rfl Try.runUnderlying26 Try.sizeOf35 rfl rfl (by first | rfl | omega) (by first | omega | (simp; omega) | (simp; done))) (Wd.g rfl rfl rfl) rfl rfl hqn83 ?_
                    refine LH.take 28 (by kernel_rfl) rfl (by kernel_rfl) (by kernel_rfl) (by kernel_rfl) (fun Hq hq => Y.fieldAddr ((ow.pt (j := j) (by first | omega | (simp; omega) | (simp; done))).nw hq) rfl Try.runUnderlying35 rfl rfl Try.sizeOf9 (by decide) rfl) (Wd.g rfl rfl rfl) rfl rfl hqn83 ?_
                    refine LH.take 29 (by kernel_rfl) rfl (by kernel_rfl) (by kernel_rfl) (by kernel_rfl) (fun Hq hq => Y.load1 (((ow.pt (j := j) (by first | omega | (simp; omega) | (simp; done))).drop 0).nw hq) rfl Try.isAgg9 rfl) (Wd.g rfl rfl rfl) rfl rfl hqn83 ?_
                    refine LH.one (i := 30) (by kernel_rfl) ?_
                    -- call selvage/selvageref15.Below
                    refine LO.call rfl rfl Try.call27 rfl (Wd.g rfl rfl rfl) rfl rfl (below_ct y.p out[j].p w0 _ ⟨hyp, hop _ (List.getElem_mem hjl)⟩) (fun v94 H94 r94 => ?_)
                    obtain ⟨rfl, hs94⟩ := r94
                    replace hl := hl.nw hs94
                    replace hx := fun x hx0 => (hx x hx0).nw hs94
                    replace ow := ow.nw hs94
                    replace vf := vf.nw hs94
                    replace hm0 := hm0.tr hs94
                    replace hlm1 := hlm1.tr hs94
                    replace hlm3 := hlm3.tr hs94
                    have hz14 := hs94.size
                    have hq94 := hqn83.tr hs94
                    refine ⟨.inr hq94, LH.narrow (SH2 := fun Hq => Nw H94 Hq) (fun Hq hq => hq94.tr hq) ?_⟩
                    have hqn94 := Nw.refl H94
                    refine LH.take 31 (by kernel_rfl) rfl (by kernel_rfl) (by kernel_rfl) (by kernel_rfl) (fun Hq hq => Y.not rfl rfl) (Wd.g rfl rfl rfl) rfl rfl hqn94 ?_
                    refine LH.take 32 (by kernel_rfl) rfl (by kernel_rfl) (by kernel_rfl) (by kernel_rfl) (fun Hq hq => Y.pick_t rfl rfl rfl) (Wd.u rfl) rfl rfl hqn94 ?_
                    refine LH.take 33 (by kernel_rfl) rfl (by kernel_rfl) (by kernel_rfl) (by kernel_rfl) (fun Hq hq => Y.assign rfl rfl) (Wd.u rfl) rfl rfl hqn94 ?_
                    refine LH.done (by kernel_rfl) ?_
                    have hqe := hqn94
                    refine hK32 _ _ ?_
                    refine hK31 _ _ ?_
                    refine CW.region ?_
                    refine LR.v (Y.move rfl rfl) (Wd.u rfl) rfl rfl ?_
                    refine LR.v (Y.addi rfl rfl rfl (by omega)) (Wd.u rfl) rfl rfl ?_
                    refine LR.v (Y.assign rfl rfl) (Wd.u rfl) rfl rfl ?_
                    refine LR.nil ?_
                    refine QN.sub (hN28 (j + 1, !(belowL y.p out[j].p)) _ ?_ ?_) ⟨rfl, rfl, (iv (by omega)), rfl, rfl, (iv (by omega)), (iv (by omega)), trivial⟩
                    · exact ⟨(by omega), by rw [fitsC_step hjc, ← hft, g65]; simp [g75, g86], hlm3⟩
                    · first | omega | (simp only; omega) | (simp; omega)
                  ·
                    refine LH.gs 23 (by kernel_rfl) rfl (by kernel_rfl) (by kernel_rfl) (by kernel_rfl) rfl rfl rfl rfl rfl rfl hqn83 ?_
                    refine LH.gs 24 (by kernel_rfl) rfl (by kernel_rfl) (by kernel_rfl) (by kernel_rfl) rfl rfl rfl rfl rfl rfl hqn83 ?_
                    refine LH.gs 25 (by kernel_rfl) rfl (by kernel_rfl) (by kernel_rfl) (by kernel_rfl) rfl rfl rfl rfl rfl rfl hqn83 ?_
                    refine LH.gs 26 (by kernel_rfl) rfl (by kernel_rfl) (by kernel_rfl) (by kernel_rfl) rfl rfl rfl rfl rfl rfl hqn83 ?_
                    refine LH.gs 27 (by kernel_rfl) rfl (by kernel_rfl) (by kernel_rfl) (by kernel_rfl) rfl rfl rfl rfl rfl rfl hqn83 ?_
                    refine LH.gs 28 (by kernel_rfl) rfl (by kernel_rfl) (by kernel_rfl) (by kernel_rfl) rfl rfl rfl rfl rfl rfl hqn83 ?_
                    refine LH.gs 29 (by kernel_rfl) rfl (by kernel_rfl) (by kernel_rfl) (by kernel_rfl) rfl rfl rfl rfl rfl rfl hqn83 ?_
                    refine LH.gs 30 (by kernel_rfl) rfl (by kernel_rfl) (by kernel_rfl) (by kernel_rfl) rfl rfl rfl rfl rfl rfl hqn83 ?_
                    refine LH.gs 31 (by kernel_rfl) rfl (by kernel_rfl) (by kernel_rfl) (by kernel_rfl) rfl rfl rfl rfl rfl rfl hqn83 ?_
                    refine LH.take 32 (by kernel_rfl) rfl (by kernel_rfl) (by kernel_rfl) (by kernel_rfl) (fun Hq hq => Y.pick_f rfl rfl rfl) (Wd.u rfl) rfl rfl hqn83 ?_
                    refine LH.take 33 (by kernel_rfl) rfl (by kernel_rfl) (by kernel_rfl) (by kernel_rfl) (fun Hq hq => Y.assign rfl rfl) (Wd.u rfl) rfl rfl hqn83 ?_
                    refine LH.done (by kernel_rfl) ?_
                    have hqe := hqn83
                    refine hK32 _ _ ?_
                    refine hK31 _ _ ?_
                    refine CW.region ?_
                    refine LR.v (Y.move rfl rfl) (Wd.u rfl) rfl rfl ?_
                    refine LR.v (Y.addi rfl rfl rfl (by omega)) (Wd.u rfl) rfl rfl ?_
                    refine LR.v (Y.assign rfl rfl) (Wd.u rfl) rfl rfl ?_
                    refine LR.nil ?_
                    refine QN.sub (hN28 (j + 1, false) _ ?_ ?_) ⟨rfl, rfl, (iv (by omega)), rfl, rfl, (iv (by omega)), (iv (by omega)), trivial⟩
                    · exact ⟨(by omega), by rw [fitsC_step hjc, ← hft, g65]; simp [g75, g86], hlm3⟩
                    · first | omega | (simp only; omega) | (simp; omega)
                ·
                  refine LH.gs 12 (by kernel_rfl) rfl (by kernel_rfl) (by kernel_rfl) (by kernel_rfl) rfl rfl rfl rfl rfl rfl hqs ?_
                  refine LH.gs 13 (by kernel_rfl) rfl (by kernel_rfl) (by kernel_rfl) (by kernel_rfl) rfl rfl rfl rfl rfl rfl hqs ?_
                  refine LH.gs 14 (by kernel_rfl) rfl (by kernel_rfl) (by kernel_rfl) (by kernel_rfl) rfl rfl rfl rfl rfl rfl hqs ?_
                  refine LH.gs 15 (by kernel_rfl) rfl (by kernel_rfl) (by kernel_rfl) (by kernel_rfl) rfl rfl rfl rfl rfl rfl hqs ?_
                  refine LH.gs 16 (by kernel_rfl) rfl (by kernel_rfl) (by kernel_rfl) (by kernel_rfl) rfl rfl rfl rfl rfl rfl hqs ?_
                  refine LH.gs 17 (by kernel_rfl) rfl (by kernel_rfl) (by kernel_rfl) (by kernel_rfl) rfl rfl rfl rfl rfl rfl hqs ?_
                  refine LH.gs 18 (by kernel_rfl) rfl (by kernel_rfl) (by kernel_rfl) (by kernel_rfl) rfl rfl rfl rfl rfl rfl hqs ?_
                  refine LH.gs 19 (by kernel_rfl) rfl (by kernel_rfl) (by kernel_rfl) (by kernel_rfl) rfl rfl rfl rfl rfl rfl hqs ?_
                  refine LH.gs 20 (by kernel_rfl) rfl (by kernel_rfl) (by kernel_rfl) (by kernel_rfl) rfl rfl rfl rfl rfl rfl hqs ?_
                  refine LH.take 21 (by kernel_rfl) rfl (by kernel_rfl) (by kernel_rfl) (by kernel_rfl) (fun Hq hq => Y.pick_f rfl rfl rfl) (Wd.u rfl) rfl rfl hqs ?_
                  refine LH.take 22 (by kernel_rfl) rfl (by kernel_rfl) (by kernel_rfl) (by kernel_rfl) (fun Hq hq => Y.move rfl rfl) (Wd.u rfl) rfl rfl hqs ?_
                  refine LH.gs 23 (by kernel_rfl) rfl (by kernel_rfl) (by kernel_rfl) (by kernel_rfl) rfl rfl rfl rfl rfl rfl hqs ?_
                  refine LH.gs 24 (by kernel_rfl) rfl (by kernel_rfl) (by kernel_rfl) (by kernel_rfl) rfl rfl rfl rfl rfl rfl hqs ?_
                  refine LH.gs 25 (by kernel_rfl) rfl (by kernel_rfl) (by kernel_rfl) (by kernel_rfl) rfl rfl rfl rfl rfl rfl hqs ?_
                  refine LH.gs 26 (by kernel_rfl) rfl (by kernel_rfl) (by kernel_rfl) (by kernel_rfl) rfl rfl rfl rfl rfl rfl hqs ?_
                  refine LH.gs 27 (by kernel_rfl) rfl (by kernel_rfl) (by kernel_rfl) (by kernel_rfl) rfl rfl rfl rfl rfl rfl hqs ?_
                  refine LH.gs 28 (by kernel_rfl) rfl (by kernel_rfl) (by kernel_rfl) (by kernel_rfl) rfl rfl rfl rfl rfl rfl hqs ?_
                  refine LH.gs 29 (by kernel_rfl) rfl (by kernel_rfl) (by kernel_rfl) (by kernel_rfl) rfl rfl rfl rfl rfl rfl hqs ?_
                  refine LH.gs 30 (by kernel_rfl) rfl (by kernel_rfl) (by kernel_rfl) (by kernel_rfl) rfl rfl rfl rfl rfl rfl hqs ?_
                  refine LH.gs 31 (by kernel_rfl) rfl (by kernel_rfl) (by kernel_rfl) (by kernel_rfl) rfl rfl rfl rfl rfl rfl hqs ?_
                  refine LH.take 32 (by kernel_rfl) rfl (by kernel_rfl) (by kernel_rfl) (by kernel_rfl) (fun Hq hq => Y.pick_f rfl rfl rfl) (Wd.u rfl) rfl rfl hqs ?_
                  refine LH.take 33 (by kernel_rfl) rfl (by kernel_rfl) (by kernel_rfl) (by kernel_rfl) (fun Hq hq => Y.assign rfl rfl) (Wd.u rfl) rfl rfl hqs ?_
                  refine LH.done (by kernel_rfl) ?_
                  have hqe := hqs
                  refine hK32 _ _ ?_
                  refine hK31 _ _ ?_
                  refine CW.region ?_
                  refine LR.v (Y.move rfl rfl) (Wd.u rfl) rfl rfl ?_
                  refine LR.v (Y.addi rfl rfl rfl (by omega)) (Wd.u rfl) rfl rfl ?_
                  refine LR.v (Y.assign rfl rfl) (Wd.u rfl) rfl rfl ?_
                  refine LR.nil ?_
                  refine QN.sub (hN28 (j + 1, false) _ ?_ ?_) ⟨rfl, rfl, (iv (by omega)), rfl, rfl, (iv (by omega)), (iv (by omega)), trivial⟩
                  · exact ⟨(by omega), by rw [fitsC_step hjc, ← hft, g65]; simp [g75], hlm3⟩
                  · first | omega | (simp only; omega) | (simp; omega)
              ·
                refine LH.gs 2 (by kernel_rfl) rfl (by kernel_rfl) (by kernel_rfl) (by kernel_rfl) rfl rfl rfl rfl rfl rfl hqs ?_
                refine LH.gs 3 (by kernel_rfl) rfl (by kernel_rfl) (by kernel_rfl) (by kernel_rfl) rfl rfl rfl rfl rfl rfl hqs ?_
                refine LH.gs 4 (by kernel_rfl) rfl (by kernel_rfl) (by kernel_rfl) (by kernel_rfl) rfl rfl rfl rfl rfl rfl hqs ?_
                refine LH.gs 5 (by kernel_rfl) rfl (by kernel_rfl) (by kernel_rfl) (by kernel_rfl) rfl rfl rfl rfl rfl rfl hqs ?_
                refine LH.gs 6 (by kernel_rfl) rfl (by kernel_rfl) (by kernel_rfl) (by kernel_rfl) rfl rfl rfl rfl rfl rfl hqs ?_
                refine LH.gs 7 (by kernel_rfl) rfl (by kernel_rfl) (by kernel_rfl) (by kernel_rfl) rfl rfl rfl rfl rfl rfl hqs ?_
                refine LH.gs 8 (by kernel_rfl) rfl (by kernel_rfl) (by kernel_rfl) (by kernel_rfl) rfl rfl rfl rfl rfl rfl hqs ?_
                refine LH.gs 9 (by kernel_rfl) rfl (by kernel_rfl) (by kernel_rfl) (by kernel_rfl) rfl rfl rfl rfl rfl rfl hqs ?_
                refine LH.take 10 (by kernel_rfl) rfl (by kernel_rfl) (by kernel_rfl) (by kernel_rfl) (fun Hq hq => Y.pick_f rfl rfl rfl) (Wd.u rfl) rfl rfl hqs ?_
                refine LH.take 11 (by kernel_rfl) rfl (by kernel_rfl) (by kernel_rfl) (by kernel_rfl) (fun Hq hq => Y.move rfl rfl) (Wd.u rfl) rfl rfl hqs ?_
                refine LH.gs 12 (by kernel_rfl) rfl (by kernel_rfl) (by kernel_rfl) (by kernel_rfl) rfl rfl rfl rfl rfl rfl hqs ?_
                refine LH.gs 13 (by kernel_rfl) rfl (by kernel_rfl) (by kernel_rfl) (by kernel_rfl) rfl rfl rfl rfl rfl rfl hqs ?_
                refine LH.gs 14 (by kernel_rfl) rfl (by kernel_rfl) (by kernel_rfl) (by kernel_rfl) rfl rfl rfl rfl rfl rfl hqs ?_
                refine LH.gs 15 (by kernel_rfl) rfl (by kernel_rfl) (by kernel_rfl) (by kernel_rfl) rfl rfl rfl rfl rfl rfl hqs ?_
                refine LH.gs 16 (by kernel_rfl) rfl (by kernel_rfl) (by kernel_rfl) (by kernel_rfl) rfl rfl rfl rfl rfl rfl hqs ?_
                refine LH.gs 17 (by kernel_rfl) rfl (by kernel_rfl) (by kernel_rfl) (by kernel_rfl) rfl rfl rfl rfl rfl rfl hqs ?_
                refine LH.gs 18 (by kernel_rfl) rfl (by kernel_rfl) (by kernel_rfl) (by kernel_rfl) rfl rfl rfl rfl rfl rfl hqs ?_
                refine LH.gs 19 (by kernel_rfl) rfl (by kernel_rfl) (by kernel_rfl) (by kernel_rfl) rfl rfl rfl rfl rfl rfl hqs ?_
                refine LH.gs 20 (by kernel_rfl) rfl (by kernel_rfl) (by kernel_rfl) (by kernel_rfl) rfl rfl rfl rfl rfl rfl hqs ?_
                refine LH.take 21 (by kernel_rfl) rfl (by kernel_rfl) (by kernel_rfl) (by kernel_rfl) (fun Hq hq => Y.pick_f rfl rfl rfl) (Wd.u rfl) rfl rfl hqs ?_
                refine LH.take 22 (by kernel_rfl) rfl (by kernel_rfl) (by kernel_rfl) (by kernel_rfl) (fun Hq hq => Y.move rfl rfl) (Wd.u rfl) rfl rfl hqs ?_
                refine LH.gs 23 (by kernel_rfl) rfl (by kernel_rfl) (by kernel_rfl) (by kernel_rfl) rfl rfl rfl rfl rfl rfl hqs ?_
                refine LH.gs 24 (by kernel_rfl) rfl (by kernel_rfl) (by kernel_rfl) (by kernel_rfl) rfl rfl rfl rfl rfl rfl hqs ?_
                refine LH.gs 25 (by kernel_rfl) rfl (by kernel_rfl) (by kernel_rfl) (by kernel_rfl) rfl rfl rfl rfl rfl rfl hqs ?_
                refine LH.gs 26 (by kernel_rfl) rfl (by kernel_rfl) (by kernel_rfl) (by kernel_rfl) rfl rfl rfl rfl rfl rfl hqs ?_
                refine LH.gs 27 (by kernel_rfl) rfl (by kernel_rfl) (by kernel_rfl) (by kernel_rfl) rfl rfl rfl rfl rfl rfl hqs ?_
                refine LH.gs 28 (by kernel_rfl) rfl (by kernel_rfl) (by kernel_rfl) (by kernel_rfl) rfl rfl rfl rfl rfl rfl hqs ?_
                refine LH.gs 29 (by kernel_rfl) rfl (by kernel_rfl) (by kernel_rfl) (by kernel_rfl) rfl rfl rfl rfl rfl rfl hqs ?_
                refine LH.gs 30 (by kernel_rfl) rfl (by kernel_rfl) (by kernel_rfl) (by kernel_rfl) rfl rfl rfl rfl rfl rfl hqs ?_
                refine LH.gs 31 (by kernel_rfl) rfl (by kernel_rfl) (by kernel_rfl) (by kernel_rfl) rfl rfl rfl rfl rfl rfl hqs ?_
                refine LH.take 32 (by kernel_rfl) rfl (by kernel_rfl) (by kernel_rfl) (by kernel_rfl) (fun Hq hq => Y.pick_f rfl rfl rfl) (Wd.u rfl) rfl rfl hqs ?_
                refine LH.take 33 (by kernel_rfl) rfl (by kernel_rfl) (by kernel_rfl) (by kernel_rfl) (fun Hq hq => Y.assign rfl rfl) (Wd.u rfl) rfl rfl hqs ?_
                refine LH.done (by kernel_rfl) ?_
                have hqe := hqs
                refine hK32 _ _ ?_
                refine hK31 _ _ ?_
                refine CW.region ?_
                refine LR.v (Y.move rfl rfl) (Wd.u rfl) rfl rfl ?_
                refine LR.v (Y.addi rfl rfl rfl (by omega)) (Wd.u rfl) rfl rfl ?_
                refine LR.v (Y.assign rfl rfl) (Wd.u rfl) rfl rfl ?_
                refine LR.nil ?_
                refine QN.sub (hN28 (j + 1, false) _ ?_ ?_) ⟨rfl, rfl, (iv (by omega)), rfl, rfl, (iv (by omega)), (iv (by omega)), trivial⟩
                · exact ⟨(by omega), by rw [fitsC_step hjc, ← hft, g65]; simp, hlm3⟩
                · first | omega | (simp only; omega) | (simp; omega)
            ·
              have hplc : placeC l[i].c.1 (out.map Fl.c) = k := by rw [← hy1]; exact hpl
              rw [List.take_of_length_le (by simp; omega)] at hft
              refine CW.exit (hE29 (.exit 4) nofun _ _ (hE28 (.exit 4) nofun _ _ (hX27 _ _ ?_)))
              refine hK25 _ _ ?_
              refine CW.seq (fun K33 hK33 hE33 => ?_)
              refine CW.seq (fun K34 hK34 hE34 => ?_)
              refine CW.region ?_
              refine LR.v (Y.move rfl rfl) (Wd.u rfl) rfl rfl ?_
              refine LR.v (Y.not rfl rfl) (Wd.u rfl) rfl rfl ?_
              refine LR.nil ?_
              refine hK34 _ _ ?_
              refine CW.cond rfl (fun c98 => ?_) (fun c98 => ?_)
              ·
                have hfit : fitsC (out.map Fl.c) l[i].c.1 = false := by rw [← hy1, ← hft]; simpa using c98
                refine CW.exit (hE33 (.exit 1) nofun _ _ (hX10 _ _ ?_))
                refine hK9 _ _ ?_
                refine CW.region ?_
                refine LR.v (Y.move rfl rfl) (Wd.u rfl) rfl rfl ?_
                refine LR.v (Y.addi rfl rfl rfl (by omega)) (Wd.u rfl) rfl rfl ?_
                refine LR.v (Y.assign rfl rfl) (Wd.u rfl) rfl rfl ?_
                refine LR.nil ?_
                refine QN.sub (hN6 (i + 1, vo, ko, out) _ ?_ ?_) ⟨rfl, rfl, (iv (by omega)), trivial⟩
                · exact ⟨(by omega), (by omega), ow, by rw [goodC_step hilc (by omega), he, hlc, goodStep_no hfit], (by omega), (by omega), (by omega), nx4, hlm1⟩
                · first | omega | (simp only; omega) | (simp; omega)
              ·
                have hfit : fitsC (out.map Fl.c) l[i].c.1 = true := by rw [← hy1, ← hft]; simpa using c98
                refine CW.skip ?_
                refine hK33 _ _ ?_
                refine CW.seq (fun K35 hK35 hE35 => ?_)
                refine CW.region ?_
                refine LR.v (Y.assign rfl rfl) (Wd.u rfl) rfl rfl ?_
                refine LR.nil ?_
                refine hK35 _ _ ?_
                refine CW.seq (fun K36 hK36 hE36 => ?_)
                refine CW.region ?_
                refine LR.v (Y.move rfl rfl) (Wd.u rfl) rfl rfl ?_
                refine LR.v (Y.move rfl rfl) (Wd.u rfl) rfl rfl ?_
                refine LR.v (Y.move rfl rfl) (Wd.u rfl) rfl rfl ?_
                refine LR.e (g := fun v => v) (Y.slice ow.rd (0) (k) rfl Try.runUnderlying26 Try.sizeOf35 rfl (.inl ⟨rfl, rfl⟩) (.inr ⟨_, _, _, rfl, rfl, by first | rfl | omega⟩) (by omega) (by omega)) (Wd.u rfl) rfl rfl (fun v102 rd102 => ?_)
                have bf_rd102 := BF.of ow.le
                have nl103 : Ow 0 35 HL3 fFl 3 (.slice none 0 0) [] := Ow.nil fFl_len fFl_one
                refine LR.z (Z.apnd nl103 rd102 rfl inf26 rfl rfl (by simp; omega) (by simp; omega)) (Wd.u rfl) rfl rfl (fun v103 H103 r103 => ?_)
                obtain ⟨k103, om, hk103, hs103⟩ := r103
                replace hk103 : Nx 0 HL3.size k103 := hk103
                replace hs103 := hs103.md
                have df17 := DF.app (DF.z) (bf_hl.mono hm0.size) hk103
                have df18 := DF.app (DF.z) (bf_hx.mono hm0.size) hk103
                have dj19 : Dj ko k103 := Dj.app (Dj.z) ow.le hk103
                have dj20 : Dj (HL1.size + 1) k103 := Dj.app (Dj.z) vf.lt hk103
                have df21 := DF.app (DF.z) (bf_rd102.mono (by omega)) hk103
                have nx22 : Nx 0 H0.size k103 := Nx.tr (Nx.refl 0 _) hk103 hm0.size
                have nx23 : Nx 0 H0.size k103 := Nx.tr (Nx.refl 0 _) hk103 hlm1.size
                replace hl := hl.upL hs103 (DFL.cons DF.z DFL.nil)
                replace hx := fun x hx0 => (hx x hx0).upL hs103 (DFL.cons DF.z DFL.nil)
                replace ow := ow.upL hs103 (DL.cons Dj.z DL.nil)
                replace vf := vf.upL hs103 (DL.cons Dj.z DL.nil)
                replace rd102 := rd102.upL hs103 (DFL.cons DF.z DFL.nil)
                replace hm0 := (Mo.trL (ks := []) (hm0.mdn []) hs103 (MIL.cons MI.z MIL.nil)).nil
                replace hlm1 := (Mo.trL (ks := []) (hlm1.mdn []) hs103 (MIL.cons MI.z MIL.nil)).nil
                have hz15 := hs103.size
                have hle_om := om.le
                rw [List.nil_append, List.drop_zero] at om
                refine LR.v (Y.assign rfl rfl) (Wd.u rfl) rfl rfl ?_
                refine LR.nil ?_
                refine hK36 _ _ ?_
                refine CW.seq (fun K37 hK37 hE37 => ?_)
                refine CW.region ?_
                refine LR.v (Y.move rfl rfl) (Wd.u rfl) rfl rfl ?_
                refine LR.v (Y.loadN vf.pt rfl Try.isAgg35 Try.sizeOf35 (rfl) rfl) (Wd.u rfl) rfl rfl ?_
                refine LR.z (Z.litw _ ([y]) rfl inf26 rfl rfl rfl (by decide) (by decide) fFl_len fFl_one (rfl)) (Wd.u rfl) rfl rfl (fun v106 H106 r106 => ?_)
                obtain ⟨nw106, hs106, ob106, hH106⟩ := r106
                have hzs106 : H106.size = H103.size + 1 := by rw [hH106]; simp
                have df24 := (DF.new (bf_hl.mono hm0.size) : DF _ (H103.size + 1))
                have df25 := (DF.new (bf_hx.mono hm0.size) : DF _ (H103.size + 1))
                have dj26 : Dj ko (H103.size + 1) := Dj.new ow.le
                have dj27 : Dj (HL1.size + 1) (H103.size + 1) := Dj.new vf.lt
                have dj28 : Dj k103 (H103.size + 1) := Dj.new om.le
                have nx29 : Nx 0 H0.size (H103.size + 1) := Nx.new hm0.size
                have nx30 : Nx 0 H0.size (H103.size + 1) := Nx.new hlm1.size
                replace hl := hl.nw hs106
                replace hx := fun x hx0 => (hx x hx0).nw hs106
                replace ow := ow.nw hs106
                replace vf := vf.nw hs106
                replace om := om.nw hs106
                replace hm0 := hm0.tr hs106
                replace hlm1 := hlm1.tr hs106
                have hz16 := hs106.size
                refine LR.z (Z.apnd om nw106.rd rfl inf26 rfl rfl (by simp; omega) (by simp; omega)) (Wd.u rfl) rfl rfl (fun v107 H107 r107 => ?_)
                obtain ⟨k107, om, hk107, hs107⟩ := r107
                replace hk107 : Nx k103 H106.size k107 := hk107
                replace hs107 := hs107.md
                have df31 := DF.app (df17) (bf_hl.mono hm0.size) hk107
                have df32 := DF.app (df18) (bf_hx.mono hm0.size) hk107
                have dj33 : Dj ko k107 := Dj.app (dj19) ow.le hk107
                have dj34 : Dj (HL1.size + 1) k107 := Dj.app (dj20) vf.lt hk107
                have dj35 : Dj (H103.size + 1) k107 := Dj.app (dj28.symm) nw106.le hk107
                have nx36 : Nx 0 H0.size k107 := Nx.tr (nx22) hk107 hm0.size
                have nx37 : Nx 0 H0.size k107 := Nx.tr (nx23) hk107 hlm1.size
                replace hl := hl.upL hs107 (DFL.cons df17 DFL.nil)
                replace hx := fun x hx0 => (hx x hx0).upL hs107 (DFL.cons df18 DFL.nil)
                replace ow := ow.upL hs107 (DL.cons dj19 DL.nil)
                replace vf := vf.upL hs107 (DL.cons dj20 DL.nil)
                replace nw106 := nw106.upL hs107 (DL.cons dj28.symm DL.nil)
                replace hm0 := (Mo.trL (ks := []) (hm0.mdn []) hs107 (MIL.cons (MI.app MI.z (nx22) (Nat.le_refl _)) MIL.nil)).nil
                replace hlm1 := (Mo.trL (ks := []) (hlm1.mdn []) hs107 (MIL.cons (MI.app MI.z (nx23) (Nat.le_refl _)) MIL.nil)).nil
                have hz17 := hs107.size
                have hle_om := om.le
                refine LR.v (Y.assign rfl rfl) (Wd.u rfl) rfl rfl ?_
                refine LR.nil ?_
                refine hK37 _ _ ?_
                refine CW.region ?_
                refine LR.v (Y.move rfl rfl) (Wd.u rfl) rfl rfl ?_
                refine LR.v (Y.move rfl rfl) (Wd.u rfl) rfl rfl ?_
                refine LR.v (Y.move rfl rfl) (Wd.u rfl) rfl rfl ?_
                refine LR.e (g := fun v => v) (Y.slice ow.rd (k) (out.length) rfl Try.runUnderlying26 Try.sizeOf35 rfl (.inr ⟨_, _, _, rfl, rfl, by first | rfl | omega⟩) (.inl ⟨rfl, rfl⟩) (by omega) (by omega)) (Wd.u rfl) rfl rfl (fun v111 rd111 => ?_)
                have bf_rd111 := BF.of ow.le
                refine LR.z (Z.apnd om rd111 rfl inf26 rfl rfl (by simp; omega) (by simp; omega)) (Wd.u rfl) rfl rfl (fun v112 H112 r112 => ?_)
                obtain ⟨k112, om, hk112, hs112⟩ := r112
                replace hk112 : Nx k107 H107.size k112 := hk112
                replace hs112 := hs112.md
                have df38 := DF.app (df31) (bf_hl.mono hm0.size) hk112
                have df39 := DF.app (df32) (bf_hx.mono hm0.size) hk112
                have dj40 : Dj ko k112 := Dj.app (dj33) ow.le hk112
                have df41 := DF.app ((DF.of dj33)) (bf_rd111.mono (by omega)) hk112
                have nx42 : Nx 0 H0.size k112 := Nx.tr (nx36) hk112 hm0.size
                have nx43 : Nx 0 H0.size k112 := Nx.tr (nx37) hk112 hlm1.size
                replace hl := hl.upL hs112 (DFL.cons df31 DFL.nil)
                replace hx := fun x hx0 => (hx x hx0).upL hs112 (DFL.cons df32 DFL.nil)
                replace ow := ow.upL hs112 (DL.cons dj33 DL.nil)
                replace rd111 := rd111.upL hs112 (DFL.cons (DF.of dj33) DFL.nil)
                replace hm0 := (Mo.trL (ks := []) (hm0.mdn []) hs112 (MIL.cons (MI.app MI.z (nx36) (Nat.le_refl _)) MIL.nil)).nil
                replace hlm1 := (Mo.trL (ks := []) (hlm1.mdn []) hs112 (MIL.cons (MI.app MI.z (nx37) (Nat.le_refl _)) MIL.nil)).nil
                have hz18 := hs112.size
                have hle_om := om.le
                rw [List.take_length] at om
                refine LR.v (Y.assign rfl rfl) (Wd.u rfl) rfl rfl ?_
                refine LR.nil ?_
                refine hK10 _ _ ?_
                refine hK9 _ _ ?_
                refine CW.region ?_
                refine LR.v (Y.move rfl rfl) (Wd.u rfl) rfl rfl ?_
                refine LR.v (Y.addi rfl rfl rfl (by omega)) (Wd.u rfl) rfl rfl ?_
                refine LR.v (Y.assign rfl rfl) (Wd.u rfl) rfl rfl ?_
                refine LR.nil ?_
                refine QN.sub (hN6 (i + 1, v112, k112, out.take k ++ [y] ++ out.drop k) _ ?_ ?_) ⟨rfl, rfl, (iv (by omega)), trivial⟩
                · exact ⟨(by omega), (by omega), om, by rw [goodC_step hilc (by omega), he, hlc, goodStep_yes hchk hfit, ← hyc]; simp only [List.map_append, List.map_take, List.map_drop, List.map_cons, List.map_nil, hplc]; simp, (by intro x hx; simp only [List.mem_append, List.mem_singleton] at hx; rcases hx with (hx | rfl) | hx; exact hox x (List.mem_of_mem_take hx); exact hy; exact hox x (List.mem_of_mem_drop hx)), (by intro x hx; simp only [List.mem_append, List.mem_singleton] at hx; rcases hx with (hx | rfl) | hx; exact hop x (List.mem_of_mem_take hx); exact hyp; exact hop x (List.mem_of_mem_drop hx)), (by simp; omega), nx43, hlm1⟩
                · first | omega | (simp only; omega) | (simp; omega)
    ·
      refine CW.exit (hE7 (.exit 0) nofun _ _ (hE6 (.exit 0) nofun _ _ (hX5 _ _ ?_)))
      refine hK3 _ _ ?_
      refine CW.seq (fun K38 hK38 hE38 => ?_)
      refine CW.region ?_
      refine LR.v (Y.move rfl rfl) (Wd.u rfl) rfl rfl ?_
      refine LR.v (Y.assign rfl rfl) (Wd.u rfl) rfl rfl ?_
      refine LR.nil ?_
      refine hK38 _ _ ?_
      refine CW.ret (hret .ret (.inr rfl) _ _ _ (res1 rfl rfl) ?_)
      exact ⟨vo, ko, out, rfl, ow, nx3, by rw [← he]; unfold goodC; rw [List.take_of_length_le (by rw [List.length_take, List.length_map]; omega)], (fun x hx => (hox x hx).nw hm0), (fun b h => Nat.lt_of_lt_of_le h.2 hm0.size), hm0⟩
  ·
    refine LR.gs rfl rfl rfl rfl rfl rfl ?_
    refine LR.gs rfl rfl rfl rfl rfl rfl ?_
    refine LR.v (Y.pick_f rfl rfl rfl) (Wd.u rfl) rfl rfl ?_
    refine LR.nil ?_
    refine hK8 _ _ ?_
    refine CW.cond_f rfl ?_
    refine CW.exit (hE7 (.exit 0) nofun _ _ (hE6 (.exit 0) nofun _ _ (hX5 _ _ ?_)))
    refine hK3 _ _ ?_
    refine CW.seq (fun K39 hK39 hE39 => ?_)
    refine CW.region ?_
    refine LR.v (Y.move rfl rfl) (Wd.u rfl) rfl rfl ?_
    refine LR.v (Y.assign rfl rfl) (Wd.u rfl) rfl rfl ?_
    refine LR.nil ?_
    refine hK39 _ _ ?_
    refine CW.ret (hret .ret (.inr rfl) _ _ _ (res1 rfl rfl) ?_)
    exact ⟨vo, ko, out, rfl, ow, nx3, by rw [← he]; unfold goodC; rw [List.take_of_length_le (by rw [List.length_take, List.length_map]; omega)], (fun x hx => (hox x hx).nw hm0), (fun b h => Nat.lt_of_lt_of_le h.2 hm0.size), hm0⟩

end Go.Proofs.Ytclhnkmkejijjaa.RenM
