/-
  No path is in two pairs; each Old is gone, each New come; each has its Score.
-/
import Derived.Test.YtclhnkmkejijjaaRenN
namespace Go.Proofs.Ytclhnkmkejijjaa.RenO
open Go.Proofs.Ytclhnkmkejijjaa.E Go.RowKit Go.Proofs.Ytclhnkmkejijjaa.RenA Go.Proofs.Ytclhnkmkejijjaa.RenB Go.Proofs.Ytclhnkmkejijjaa.RenC Go.Proofs.Ytclhnkmkejijjaa.RenD Go.Proofs.Ytclhnkmkejijjaa.RenE Go.Proofs.Ytclhnkmkejijjaa.RenF Go.Proofs.Ytclhnkmkejijjaa.RenG Go.Proofs.Ytclhnkmkejijjaa.RenH Go.Proofs.Ytclhnkmkejijjaa.RenI Go.Proofs.Ytclhnkmkejijjaa.RenL Go.Proofs.Ytclhnkmkejijjaa.RenM Go.Proofs.Ytclhnkmkejijjaa.RenN
set_option maxRecDepth 20000
set_option linter.unusedVariables false
set_option linter.unusedSimpArgs false
set_option linter.unusedSectionVars false

section
variable {P : Program} {w0 : World} {n : Nat} {l : FL} {H : Heap} {o : Oper}
theorem _root_.Go.Proofs.Ytclhnkmkejijjaa.E.Y.field {x : Operand} {s : TypeId} {k off : Nat} {vs : Array Value} {fs : Array Field} {fd : Field} {u : Value} (ho : o.op = .field s x k) (hu : ∀ w, (underlying s).run P w = .ok (.struct fs) w) (hk : fs[k]? = some fd) (hof : fd.offset = off)
    (ha : ∀ w, (isAgg fd.type).run P w = .ok false w) (hx : opv l x = some (.agg vs)) (hv : vs[off]? = some u) : Y P w0 n l H o u := by
  intro ac w hf hat
  simp [execOp, ho, hf.eval hx, Instr.field, hu, hk, hof, asAgg, part, ha, hv]
end
def findF (l : List Fl) (p : List UInt8) : Fl := (l.find? (fun x => decide (x.p = p))).getD zFl
theorem findF_at {l : List Fl} {p : List UInt8} {i : Nat} (hi : i < l.length) (h1 : ∀ q (h : q < l.length), q < i → l[q].p ≠ p) (h2 : l[i].p = p) : findF l p = l[i] := by
  have : l.find? (fun x => decide (x.p = p)) = some l[i] := by
    rw [List.find?_eq_some_iff_getElem]
    exact ⟨by simpa using h2, i, hi, rfl, fun j hj => by simpa using h1 j (by omega) hj⟩
  unfold findF; rw [this]; rfl
theorem findF_no {l : List Fl} {p : List UInt8} (h : ∀ y ∈ l, y.p ≠ p) : findF l p = zFl := by
  have : l.find? (fun x => decide (x.p = p)) = none := by rw [List.find?_eq_none]; intro x hx; simpa using h x hx
  unfold findF; rw [this]; rfl
theorem findF_mem {l : List Fl} (h : Asc l) {f : Fl} (hf : f ∈ l) : findF l f.p = f := by
  obtain ⟨i, hi, rfl⟩ := List.mem_iff_getElem.1 hf
  exact findF_at hi (fun q hq hlt => bl_ne (List.pairwise_iff_getElem.1 h q i hq hi hlt)) rfl
theorem findF_R {l : List Fl} {F : Nat → Prop} {H : Heap} (h : ∀ x ∈ l, FlR F H x) (p : List UInt8) : FlR (fun _ => True) H (findF l p) := by
  unfold findF
  cases e : l.find? (fun x => decide (x.p = p)) with
  | none => exact zFl_R H
  | some x => exact (h x (List.mem_of_find?_eq_some e)).any
/-- what Good makes -/
def GoodL (l : List Fl) : Prop := Asc l ∧ l.length ≤ 40 ∧ ∀ x ∈ l, (1 ≤ x.k ∧ x.k ≤ 3) ∧ x.d.length ≤ 2000 ∧ x.p.length ≤ 1099511627776
theorem placeC_lt (p : List UInt8) : ∀ (l : List Fc), (∀ x ∈ l.take (placeC p l), Op.bytesLess x.1 p = true) ∧ ∀ h : placeC p l < l.length, Op.bytesLess l[placeC p l].1 p = false
  | [] => ⟨by simp, fun h => by simp at h⟩
  | y :: l => by
    obtain ⟨h1, h2⟩ := placeC_lt p l
    by_cases hy : Op.bytesLess y.1 p = true
    · have e : placeC p (y :: l) = placeC p l + 1 := by rw [placeC, if_pos hy]
      refine ⟨fun x hx => ?_, fun h => ?_⟩
      · rw [e, List.take_succ_cons] at hx
        rcases List.mem_cons.1 hx with rfl | hx
        · exact hy
        · exact h1 x hx
      · simp only [e, List.getElem_cons_succ]
        exact h2 (by rw [e] at h; simpa using h)
    · have e : placeC p (y :: l) = 0 := by rw [placeC, if_neg hy]
      refine ⟨fun x hx => by rw [e] at hx; simp at hx, fun h => ?_⟩
      simp only [e, List.getElem_cons_zero]
      simpa using hy
theorem goodC_props (P : Fc → Prop) : ∀ (l out : List Fc), (∀ x ∈ l, P (gf x)) → (out.Pairwise (fun x y => Op.bytesLess x.1 y.1 = true) ∧ ∀ x ∈ out, P x) → ((l.foldl goodStep out).Pairwise (fun x y => Op.bytesLess x.1 y.1 = true) ∧ ∀ x ∈ l.foldl goodStep out, P x)
  | [], out, _, h => h
  | x :: l, out, hl, h => by
    rw [List.foldl_cons]
    refine goodC_props P l _ (fun y hy => hl y (by simp [hy])) ?_
    unfold goodStep
    split
    · exact h
    · split
      · rename_i hf
        obtain ⟨h1, h2⟩ := placeC_lt x.1 out
        have hfit : ∀ y ∈ out, y.1 ≠ x.1 := fun y hy => by
          have := List.all_eq_true.1 hf y hy
          simp at this
          exact this.1.1
        have hge : ∀ y ∈ out.drop (placeC x.1 out), Op.bytesLess x.1 y.1 = true := by
          intro y hy
          have hk : placeC x.1 out < out.length := by
            rcases Nat.lt_or_ge (placeC x.1 out) out.length with h9 | h9
            · exact h9
            · rw [List.drop_of_length_le h9] at hy; cases hy
          have hm := h2 hk
          have hk1 : Op.bytesLess x.1 out[placeC x.1 out].1 = true := by
            cases h9 : Op.bytesLess x.1 out[placeC x.1 out].1 with
            | true => rfl
            | false => exact absurd (bl_total _ _ hm h9) (hfit _ (List.getElem_mem hk))
          have hp := h.1.sublist (List.drop_sublist (placeC x.1 out) out)
          rw [List.drop_eq_getElem_cons hk] at hy hp
          rcases List.mem_cons.1 hy with rfl | hy
          · exact hk1
          · exact bl_trans hk1 ((List.pairwise_cons.1 hp).1 y hy)
        refine ⟨?_, fun y hy => ?_⟩
        · rw [List.pairwise_append, List.pairwise_cons]
          refine ⟨h.1.sublist (List.take_sublist _ _), ⟨hge, h.1.sublist (List.drop_sublist _ _)⟩, fun a ha b hb => ?_⟩
          rcases List.mem_cons.1 hb with rfl | hb
          · exact h1 a ha
          · exact bl_trans (h1 a ha) (hge b hb)
        · rcases List.mem_append.1 hy with hy | hy
          · exact h.2 y (List.mem_of_mem_take hy)
          · rcases List.mem_cons.1 hy with rfl | hy
            · exact hl x (by simp)
            · exact h.2 y (List.mem_of_mem_drop hy)
      · exact h
theorem good_of {l gl : List Fl} (h : gl.map Fl.c = goodC (l.map Fl.c)) (hb : ∀ x ∈ l, x.p.length ≤ 1099511627776) : GoodL gl := by
  have hp := goodC_props (fun x => (1 ≤ x.2.1 ∧ x.2.1 ≤ 3) ∧ x.2.2.length ≤ 2000 ∧ x.1.length ≤ 1099511627776) ((l.map Fl.c).take 40) [] (fun x hx => by
    obtain ⟨y, hy, rfl⟩ := List.mem_map.1 (List.mem_of_mem_take hx)
    exact ⟨gk_rng _, by simp only [gf, List.length_take]; omega, hb y hy⟩) ⟨List.Pairwise.nil, fun x hx => by cases hx⟩
  have hl := goodC_len ((l.map Fl.c).take 40) []
  change (goodC (l.map Fl.c)).Pairwise _ ∧ _ at hp
  change (goodC (l.map Fl.c)).length ≤ _ at hl
  obtain ⟨hp1, hp2⟩ := hp
  change ∀ x ∈ goodC (l.map Fl.c), _ at hp2
  rw [← h] at hp1 hp2 hl
  refine ⟨?_, by simp at hl; omega, fun x hx => hp2 x.c (List.mem_map.2 ⟨x, hx, rfl⟩)⟩
  have := hp1
  rw [List.pairwise_map] at this
  exact this
theorem once_facts {a b : List Fl} (ha : GoodL a) (hb : GoodL b) {out : List Pr} (h : DetP (diffL a b) out) :
    (∀ p ∈ out, (findF a p.o).k ≠ 0 ∧ (findF b p.n).k ≠ 0 ∧ (findF b p.o).k = 0 ∧ (findF a p.n).k = 0 ∧ p.s = (scoreB (findF a p.o).d (findF b p.n).d : Nat) ∧ 50 ≤ p.s ∧ (findF a p.o).d.length ≤ 2000 ∧ (findF b p.n).d.length ≤ 2000) ∧ (out.map (·.n)).Nodup ∧ out.Pairwise (fun x y => Op.bytesLess x.o y.o = true) := by
  have ka : ∀ x ∈ a, x.k ≠ 0 := fun x hx => by have := (ha.2.2 x hx).1; omega
  have kb : ∀ x ∈ b, x.k ≠ 0 := fun x hx => by have := (hb.2.2 x hx).1; omega
  obtain ⟨s1, s2⟩ := diff_subl a b ka kb
  obtain ⟨w1, w2⟩ := diff_away a b ha.1 hb.1 ka kb
  obtain ⟨h1, h2, h3, h4⟩ := det_props h ((s1.map (·.p)).nodup ha.1.nodup) ((s2.map (·.p)).nodup hb.1.nodup)
  refine ⟨fun p hp => ?_, h3, h4⟩
  obtain ⟨f, hf, g, hg, rfl, hs⟩ := h1 p hp
  have hfa := s1.subset hf
  have hgb := s2.subset hg
  simp only
  rw [findF_mem ha.1 hfa, findF_mem hb.1 hgb, findF_no (w1 f hf), findF_no (w2 g hg)]
  exact ⟨ka f hfa, kb g hgb, rfl, rfl, rfl, by omega, (ha.2.2 f hfa).2.1, (hb.2.2 g hgb).2.1⟩
theorem det_same {a : List Fl} {out : List Pr} (h : DetP (diffL a a) out) : out = [] := by
  rw [diff_self] at h
  exact det_none h (.inl rfl)
structure Vxy (H : Heap) (bx by_ : Nat) (x y : Fl) : Prop where
  x : Var 35 H bx (fFl x)
  y : Var 35 H by_ (fFl y)
theorem Vxy.nw {H H' : Heap} {bx by_ : Nat} {x y : Fl} (h : Vxy H bx by_ x y) (s : Nw H H') : Vxy H' bx by_ x y := ⟨h.x.nw s, h.y.nw s⟩

theorem find_ct (v : Value) (l : List Fl) (p : List UInt8) (w0 : World) (H0 : Heap)
    (hl : RdT H0 fFl 3 v l) :
    Ct Try.prog w0 19 #[v, Str p] H0 (fun r H2 => r = .agg (fFl (findF l p)).toArray ∧ Nw H0 H2) := by
  refine Ct.enter (args := [v, Str p]) Try.func19 rfl rfl rfl ?_
  intro Q0 hret
  have hm0 : Nw H0 H0 := Mo.refl _ _
  replace hl := hl.bnd
  have bf_hl := Rd.bf hl
  have hll := hl.len
  refine CW.seq (fun K1 hK1 hE1 => ?_)
  refine CW.region ?_
  refine LR.z (Z.allocv rfl Try.zeroValue35) (Wd.u rfl) rfl rfl (fun v4 H4 r4 => ?_)
  obtain ⟨rfl, vr, hs4, ob4, hH4⟩ := r4
  have hzs4 : H4.size = H0.size + 1 := by rw [hH4]; simp
  have df1 := (DF.new (bf_hl.mono hm0.size) : DF _ (H0.size + 1))
  have nx2 : Nx 0 H0.size (H0.size + 1) := Nx.new hm0.size
  replace hl := hl.nw hs4
  replace hm0 := hm0.tr hs4
  have hz1 := hs4.size
  replace vr : Var 35 H4 H0.size (fFl zFl) := vr
  refine LR.nil ?_
  refine hK1 _ _ ?_
  refine CW.seq (fun K2 hK2 hE2 => ?_)
  refine CW.seq (fun K3 hK3 hE3 => ?_)
  refine CW.region ?_
  refine LR.v (Y.assign rfl rfl) (Wd.u rfl) rfl rfl ?_
  refine LR.nil ?_
  refine hK3 _ _ ?_
  refine CW.block (fun K4 hK4 hX4 hE4 => ?_)
  refine CW.loop (fun (i : (Nat)) => [(0, v), (1, Str p), (4, .pointer (some ⟨H0.size, 0, none⟩)), (5, .int .i64 i)])
    (fun (i : (Nat)) (H : Heap) => (i ≤ l.length) ∧ (∀ q (h : q < l.length), q < i → l[q].p ≠ p) ∧ Nw H4 H)
    (fun (i : (Nat)) => l.length - i) 0 ⟨rfl, rfl, rfl, rfl, trivial⟩ ?_ ?_
  ·
    exact ⟨(by omega), (fun q h h2 => absurd h2 (Nat.not_lt_zero _)), Mo.refl _ _⟩
  intro i HL1 hI1 K5 hN5 hE5
  obtain ⟨hi, hq_, hlm1⟩ := hI1
  replace hl := hl.nw hlm1
  replace vr := vr.nw hlm1
  replace hm0 := hm0.tr hlm1
  have hz2 := hlm1.size
  refine CW.seq (fun K6 hK6 hE6 => ?_)
  refine CW.seq (fun K7 hK7 hE7 => ?_)
  refine CW.region ?_
  refine LR.v (Y.move rfl rfl) (Wd.u rfl) rfl rfl ?_
  refine LR.v (Y.move rfl rfl) (Wd.u rfl) rfl rfl ?_
  refine LR.v (Y.len hl rfl Try.runUnderlying26 rfl) (Wd.u rfl) rfl rfl ?_
  refine LR.v (Y.lss rfl rfl rfl) (Wd.u rfl) rfl rfl ?_
  refine LR.nil ?_
  refine hK7 _ _ ?_
  refine CW.condp rfl (fun c9 => ?_) (fun c9 => ?_)
  ·
    refine CW.skip ?_
    refine hK6 _ _ ?_
    refine CW.seq (fun K8 hK8 hE8 => ?_)
    refine CW.block (fun K9 hK9 hX9 hE9 => ?_)
    refine CW.seq (fun K10 hK10 hE10 => ?_)
    refine CW.region ?_
    refine LR.v (Y.move rfl rfl) (Wd.u rfl) rfl rfl ?_
    refine LR.v (Y.move rfl rfl) (Wd.u rfl) rfl rfl ?_
    refine LR.e (g := fun ad => .pointer (some ad)) (Y.indexAddrF hl (i) rfl Try.runUnderlying26 Try.sizeOf35 rfl rfl (by first | rfl | omega) (by first | omega | (simp; omega) | (simp; done))) (Wd.u rfl) rfl rfl (fun ad14 pt14 => ?_)
    have bf_pt14 := bf_hl
    refine LR.v (Y.fieldAddr pt14.pt rfl Try.runUnderlying35 rfl rfl Try.sizeOf9 (by decide) rfl) (Wd.u rfl) rfl rfl ?_
    refine LR.v (Y.load1 (pt14.pt.drop 0) rfl Try.isAgg9 rfl) (Wd.u rfl) rfl rfl ?_
    refine LR.v (Y.move rfl rfl) (Wd.u rfl) rfl rfl ?_
    refine LR.v (Y.seql rfl rfl rfl) (Wd.u rfl) rfl rfl ?_
    refine LR.nil ?_
    refine hK10 _ _ ?_
    refine CW.condp rfl (fun c18 => ?_) (fun c18 => ?_)
    ·
      refine CW.seq (fun K11 hK11 hE11 => ?_)
      refine CW.region ?_
      refine LR.v (Y.move rfl rfl) (Wd.u rfl) rfl rfl ?_
      refine LR.v (Y.move rfl rfl) (Wd.u rfl) rfl rfl ?_
      have hil : i < l.length := by omega
      have hfi := findF_at hil hq_ c18
      refine LR.e (g := fun ad => .pointer (some ad)) (Y.indexAddrF hl (i) rfl Try.runUnderlying26 Try.sizeOf35 rfl rfl (by first | rfl | omega) (by first | omega | (simp; omega) | (simp; done))) (Wd.u rfl) rfl rfl (fun ad21 pt21 => ?_)
      have bf_pt21 := bf_hl
      refine LR.v (Y.loadN pt21.pt rfl Try.isAgg35 Try.sizeOf35 (rfl) rfl) (Wd.u rfl) rfl rfl ?_
      refine LR.s (S.var vr (_) (fFl l[i]) rfl rfl rfl rfl (fFl_one l[i]) Try.sizeOf35 (rfl) (Nat.le_of_ble_eq_true rfl) (rfl)) (Wd.u rfl) rfl (fun H5_4 r5_4 => ?_)
      obtain ⟨vr, hs5_4⟩ := r5_4
      replace hs5_4 := hs5_4.md1
      replace hl := hl.upL hs5_4 (DFL.cons df1 DFL.nil)
      replace pt21 := pt21.upL hs5_4 (DFL.cons df1 DFL.nil)
      replace hm0 := (Mo.trL (ks := []) (hm0.mdn []) hs5_4 (MIL.cons (MI.app MI.z (nx2) (Nat.le_refl _)) MIL.nil)).nil
      -- LOST hlm1
      have hz3 := hs5_4.size
      refine LR.nil ?_
      refine hK11 _ _ ?_
      refine CW.ret (hE9 .ret nofun (by simp) _ _ (hE8 .ret nofun _ _ (hE5 .ret nofun _ _ (hE4 .ret nofun (by simp) _ _ (hE2 .ret nofun _ _ (hret .ret (.inr rfl) _ _ _ (resC rfl rfl vr.pt Try.isAgg35 Try.sizeOf35 (rfl)) ?_))))))
      exact ⟨by rw [hfi], hm0⟩
    ·
      refine CW.skip ?_
      refine hK9 _ _ ?_
      refine hK8 _ _ ?_
      refine CW.region ?_
      refine LR.v (Y.move rfl rfl) (Wd.u rfl) rfl rfl ?_
      refine LR.v (Y.addi rfl rfl rfl (by omega)) (Wd.u rfl) rfl rfl ?_
      refine LR.v (Y.assign rfl rfl) (Wd.u rfl) rfl rfl ?_
      refine LR.nil ?_
      refine QN.sub (hN5 (i + 1) _ ?_ ?_) ⟨rfl, rfl, rfl, (iv (by omega)), trivial⟩
      · exact ⟨(by omega), (fun q h h2 => by rcases Nat.lt_succ_iff_lt_or_eq.1 h2 with h5 | rfl; exact hq_ q h h5; exact c18), hlm1⟩
      · first | omega | (simp only; omega) | (simp; omega)
  ·
    refine CW.exit (hE6 (.exit 0) nofun _ _ (hE5 (.exit 0) nofun _ _ (hX4 _ _ ?_)))
    refine hK2 _ _ ?_
    refine CW.seq (fun K12 hK12 hE12 => ?_)
    refine CW.region ?_
    refine LR.v (Y.build (v := .agg (fFl zFl).toArray) rfl rfl (by intro w; kernel_rfl)) (Wd.u rfl) rfl rfl ?_
    refine LR.s (S.var vr (_) (fFl zFl) rfl rfl rfl rfl (fFl_one zFl) Try.sizeOf35 (rfl) (Nat.le_of_ble_eq_true rfl) (rfl)) (Wd.u rfl) rfl (fun H6_1 r6_1 => ?_)
    obtain ⟨vr, hs6_1⟩ := r6_1
    replace hs6_1 := hs6_1.md1
    replace hl := hl.upL hs6_1 (DFL.cons df1 DFL.nil)
    replace hm0 := (Mo.trL (ks := []) (hm0.mdn []) hs6_1 (MIL.cons (MI.app MI.z (nx2) (Nat.le_refl _)) MIL.nil)).nil
    have hz4 := hs6_1.size
    refine LR.nil ?_
    refine hK12 _ _ ?_
    refine CW.ret (hret .ret (.inr rfl) _ _ _ (resC rfl rfl vr.pt Try.isAgg35 Try.sizeOf35 (rfl)) ?_)
    exact ⟨by rw [findF_no (fun y hy => by obtain ⟨q, hq, rfl⟩ := List.mem_iff_getElem.1 hy; exact hq_ q hq (by omega))], hm0⟩

set_option maxHeartbeats 8000000 in
theorem once_ct (v1 v2 : Value) (a b : List Fl) (w0 : World) (H0 : Heap)
    (ha : RdT H0 fFl 3 v1 a) (hb : RdT H0 fFl 3 v2 b) (hx : ∀ x ∈ a, FlR (fun _ => True) H0 x) (hy : ∀ x ∈ b, FlR (fun _ => True) H0 x) (hba : ∀ x ∈ a, x.p.length ≤ 1099511627776) (hbb : ∀ x ∈ b, x.p.length ≤ 1099511627776) :
    Ct Try.prog w0 5 #[v1, v2] H0 (fun r H2 => r = .bool true ∧ Nw H0 H2) := by
  refine Ct.enter (args := [v1, v2]) Try.func5 rfl rfl rfl ?_
  intro Q0 hret
  have hm0 : Nw H0 H0 := Mo.refl _ _
  replace ha := ha.bnd
  have bf_ha := Rd.bf ha
  replace hb := hb.bnd
  have bf_hb := Rd.bf hb
  replace hx := fun x hx0 => (hx x hx0).bnd
  have bf_hx : BF (fun b => True ∧ b < H0.size) H0.size := fun b h => h.2
  replace hy := fun x hy0 => (hy x hy0).bnd
  have bf_hy : BF (fun b => True ∧ b < H0.size) H0.size := fun b h => h.2
  refine CW.seq (fun K1 hK1 hE1 => ?_)
  refine CW.region ?_
  refine LR.v (Y.assign rfl rfl) (Wd.u rfl) rfl rfl ?_
  refine LR.nil ?_
  refine hK1 _ _ ?_
  refine CW.seq (fun K2 hK2 hE2 => ?_)
  refine CW.seq (fun K3 hK3 hE3 => ?_)
  refine CW.region ?_
  -- call selvage/selvagelaw16.known
  refine LR.call rfl Try.call10 rfl (Wd.u rfl) rfl rfl (known_ct w0 _) (fun v10 H10 r10 => ?_)
  obtain ⟨rfl, hs10⟩ := r10
  replace ha := ha.nw hs10
  replace hb := hb.nw hs10
  replace hx := fun x hx0 => (hx x hx0).nw hs10
  replace hy := fun x hy0 => (hy x hy0).nw hs10
  replace hm0 := hm0.tr hs10
  have hz1 := hs10.size
  refine LR.v (Y.not rfl rfl) (Wd.u rfl) rfl rfl ?_
  refine LR.nil ?_
  refine hK3 _ _ ?_
  refine CW.cond_f rfl ?_
  refine CW.skip ?_
  refine hK2 _ _ ?_
  refine CW.seq (fun K4 hK4 hE4 => ?_)
  refine CW.region ?_
  refine LR.v (Y.move rfl rfl) (Wd.u rfl) rfl rfl ?_
  -- call selvage/selvagelaw15.Good
  refine LR.call rfl Try.call13 rfl (Wd.u rfl) rfl rfl (good_ct v1 a w0 _ ha.any (fun x hx_ => (hx x hx_).any) hba) (fun v13 H13 r13 => ?_)
  obtain ⟨v13_, koga, ga, rfl, oga, hkoga, hgl13, gax, bf_gax, hs13⟩ := r13
  have df1 := DF.app (DF.z) (bf_ha.mono hm0.size) hkoga
  have df2 := DF.app (DF.z) (bf_hb.mono hm0.size) hkoga
  have df3 := DF.app (DF.z) (bf_hx.mono hm0.size) hkoga
  have df4 := DF.app (DF.z) (bf_hy.mono hm0.size) hkoga
  have nx5 : Nx 0 H0.size koga := Nx.tr (Nx.refl 0 _) hkoga hm0.size
  replace ha := ha.nw hs13
  replace hb := hb.nw hs13
  replace hx := fun x hx0 => (hx x hx0).nw hs13
  replace hy := fun x hy0 => (hy x hy0).nw hs13
  replace hm0 := hm0.tr hs13
  have hz2 := hs13.size
  have hle_oga := oga.le
  have hgga := good_of hgl13 hba
  refine LR.v (Y.move rfl rfl) (Wd.u rfl) rfl rfl ?_
  -- call selvage/selvagelaw15.Good
  refine LR.call rfl Try.call13 rfl (Wd.u rfl) rfl rfl (good_ct v2 b w0 _ hb.any (fun x hx_ => (hy x hx_).any) hbb) (fun v15 H15 r15 => ?_)
  obtain ⟨v15_, kogb, gb, rfl, ogb, hkogb, hgl15, gbx, bf_gbx, hs15⟩ := r15
  have df6 := DF.app (DF.z) (bf_ha.mono hm0.size) hkogb
  have df7 := DF.app (DF.z) (bf_hb.mono hm0.size) hkogb
  have df8 := DF.app (DF.z) (bf_hx.mono hm0.size) hkogb
  have df9 := DF.app (DF.z) (bf_hy.mono hm0.size) hkogb
  have dj10 : Dj koga kogb := Dj.app (Dj.z) oga.le hkogb
  have df11 := DF.app (DF.z) (bf_gax.mono (by omega)) hkogb
  have nx12 : Nx 0 H0.size kogb := Nx.tr (Nx.refl 0 _) hkogb hm0.size
  replace ha := ha.nw hs15
  replace hb := hb.nw hs15
  replace hx := fun x hx0 => (hx x hx0).nw hs15
  replace hy := fun x hy0 => (hy x hy0).nw hs15
  replace oga := oga.nw hs15
  replace gax := fun x hx_ => (gax x hx_).nw hs15
  replace hm0 := hm0.tr hs15
  have hz3 := hs15.size
  have hle_ogb := ogb.le
  have hggb := good_of hgl15 hbb
  refine LR.v (Y.assign rfl rfl) (Wd.u rfl) rfl rfl ?_
  refine LR.v (Y.assign rfl rfl) (Wd.u rfl) rfl rfl ?_
  refine LR.nil ?_
  refine hK4 _ _ ?_
  refine CW.seq (fun K5 hK5 hE5 => ?_)
  refine CW.region ?_
  refine LR.v (Y.move rfl rfl) (Wd.u rfl) rfl rfl ?_
  refine LR.v (Y.move rfl rfl) (Wd.u rfl) rfl rfl ?_
  -- call selvage/selvageref15.Diff
  refine LR.call rfl Try.call14 rfl (Wd.u rfl) rfl rfl (diff_ct v13 v15 ga gb w0 _ oga.rd.any ogb.rd.any (fun x h => (gax x h).any) (fun x h => (gbx x h).any) (by have h9 := hgga.2.1; omega) (by have h9 := hggb.2.1; omega)) (fun v18 H18 r18 => ?_)
  obtain ⟨vc_, kc, rfl, oc, hkc, hdl, hs18⟩ := r18
  have df13 := DF.app (DF.z) (bf_ha.mono hm0.size) hkc
  have df14 := DF.app (DF.z) (bf_hb.mono hm0.size) hkc
  have df15 := DF.app (DF.z) (bf_hx.mono hm0.size) hkc
  have df16 := DF.app (DF.z) (bf_hy.mono hm0.size) hkc
  have dj17 : Dj koga kc := Dj.app (Dj.z) oga.le hkc
  have df18 := DF.app (DF.z) (bf_gax.mono (by omega)) hkc
  have dj19 : Dj kogb kc := Dj.app (Dj.z) ogb.le hkc
  have df20 := DF.app (DF.z) (bf_gbx.mono (by omega)) hkc
  have nx21 : Nx 0 H0.size kc := Nx.tr (Nx.refl 0 _) hkc hm0.size
  replace ha := ha.nw hs18
  replace hb := hb.nw hs18
  replace hx := fun x hx0 => (hx x hx0).nw hs18
  replace hy := fun x hy0 => (hy x hy0).nw hs18
  replace oga := oga.nw hs18
  replace gax := fun x hx_ => (gax x hx_).nw hs18
  replace ogb := ogb.nw hs18
  replace gbx := fun x hx_ => (gbx x hx_).nw hs18
  replace hm0 := hm0.tr hs18
  have hz4 := hs18.size
  have hle_oc := oc.le
  -- call selvage/rename.Detect
  refine LR.call rfl Try.call17 rfl (Wd.u rfl) rfl rfl (detect_ct v18 (diffL ga gb) w0 _ oc.rd.any (fun c hc => (diffL_all (Q := FlR (fun _ => True) _) (zFl_R _) ga gb (fun x h => (gax x h).any) (fun x h => (gbx x h).any) c hc).1) (fun c hc => (diffL_all (Q := FlR (fun _ => True) _) (zFl_R _) ga gb (fun x h => (gax x h).any) (fun x h => (gbx x h).any) c hc).2) (by have h9 := hgga.2.1; have h8 := hggb.2.1; omega) (diffL_all (Q := fun x => x.p.length ≤ 9223372036854775806 ∧ x.d.length ≤ 1048576) (by decide) ga gb (fun x h => by have h9 := hgga.2.2 x h; omega) (fun x h => by have h9 := hggb.2.2 x h; omega))) (fun v19 H19 r19 => ?_)
  obtain ⟨vd_, kd, out, rfl, od, hkd, hdet, hs19⟩ := r19
  have df22 := DF.app (DF.z) (bf_ha.mono hm0.size) hkd
  have df23 := DF.app (DF.z) (bf_hb.mono hm0.size) hkd
  have df24 := DF.app (DF.z) (bf_hx.mono hm0.size) hkd
  have df25 := DF.app (DF.z) (bf_hy.mono hm0.size) hkd
  have dj26 : Dj koga kd := Dj.app (Dj.z) oga.le hkd
  have df27 := DF.app (DF.z) (bf_gax.mono (by omega)) hkd
  have dj28 : Dj kogb kd := Dj.app (Dj.z) ogb.le hkd
  have df29 := DF.app (DF.z) (bf_gbx.mono (by omega)) hkd
  have dj30 : Dj kc kd := Dj.app (Dj.z) oc.le hkd
  have nx31 : Nx 0 H0.size kd := Nx.tr (Nx.refl 0 _) hkd hm0.size
  replace ha := ha.nw hs19
  replace hb := hb.nw hs19
  replace hx := fun x hx0 => (hx x hx0).nw hs19
  replace hy := fun x hy0 => (hy x hy0).nw hs19
  replace oga := oga.nw hs19
  replace gax := fun x hx_ => (gax x hx_).nw hs19
  replace ogb := ogb.nw hs19
  replace gbx := fun x hx_ => (gbx x hx_).nw hs19
  replace oc := oc.nw hs19
  replace hm0 := hm0.tr hs19
  have hz5 := hs19.size
  have hle_od := od.le
  obtain ⟨hof, hon, hoa⟩ := once_facts hgga hggb hdet
  have hoN := List.pairwise_iff_getElem.1 hoa
  rw [List.nodup_iff_pairwise_ne, List.pairwise_map] at hon
  have honN := List.pairwise_iff_getElem.1 hon
  refine LR.v (Y.assign rfl rfl) (Wd.u rfl) rfl rfl ?_
  refine LR.nil ?_
  refine hK5 _ _ ?_
  refine CW.seq (fun K6 hK6 hE6 => ?_)
  refine CW.seq (fun K7 hK7 hE7 => ?_)
  refine CW.region ?_
  refine LR.v (Y.assign rfl rfl) (Wd.u rfl) rfl rfl ?_
  refine LR.nil ?_
  refine hK7 _ _ ?_
  refine CW.block (fun K8 hK8 hX8 hE8 => ?_)
  refine CW.loop (fun (i : (Nat)) => [(0, v13), (1, v15), (5, v19), (6, .int .i64 i)])
    (fun (i : (Nat)) (H : Heap) => (i ≤ out.length) ∧ Nw H19 H)
    (fun (i : (Nat)) => out.length - i) 0 ⟨rfl, rfl, rfl, rfl, trivial⟩ ?_ ?_
  ·
    exact ⟨(by omega), Mo.refl _ _⟩
  intro i HL1 hI1 K9 hN9 hE9
  obtain ⟨hi, hlm1⟩ := hI1
  replace ha := ha.nw hlm1
  replace hb := hb.nw hlm1
  replace hx := fun x hx0 => (hx x hx0).nw hlm1
  replace hy := fun x hy0 => (hy x hy0).nw hlm1
  replace oga := oga.nw hlm1
  replace gax := fun x hx_ => (gax x hx_).nw hlm1
  replace ogb := ogb.nw hlm1
  replace gbx := fun x hx_ => (gbx x hx_).nw hlm1
  replace oc := oc.nw hlm1
  replace od := od.nw hlm1
  replace hm0 := hm0.tr hlm1
  have hz6 := hlm1.size
  refine CW.seq (fun K10 hK10 hE10 => ?_)
  refine CW.seq (fun K11 hK11 hE11 => ?_)
  refine CW.region ?_
  refine LR.v (Y.move rfl rfl) (Wd.u rfl) rfl rfl ?_
  refine LR.v (Y.move rfl rfl) (Wd.u rfl) rfl rfl ?_
  refine LR.v (Y.len od.rd rfl Try.runUnderlying31 rfl) (Wd.u rfl) rfl rfl ?_
  refine LR.v (Y.lss rfl rfl rfl) (Wd.u rfl) rfl rfl ?_
  refine LR.nil ?_
  refine hK11 _ _ ?_
  refine CW.condp rfl (fun c23 => ?_) (fun c23 => ?_)
  ·
    refine CW.skip ?_
    refine hK10 _ _ ?_
    refine CW.seq (fun K12 hK12 hE12 => ?_)
    refine CW.block (fun K13 hK13 hX13 hE13 => ?_)
    refine CW.cut (fun (s_ : (Nat) × (Nat)) => match s_ with | (bx, by_) => [(0, v13), (1, v15), (5, v19), (6, .int .i64 i), (7, .pointer (some ⟨bx, 0, none⟩)), (8, .pointer (some ⟨by_, 0, none⟩))])
      (fun (s_ : (Nat) × (Nat)) (H : Heap) => match s_ with | (bx, by_) => (Vxy H bx by_ (findF ga out[i].o) (findF gb out[i].n)) ∧ Nw HL1 H) (fun K14 hK14 hE14 => ?_) ?_
    ·
      have hcm14 : Nw HL1 HL1 := Mo.refl _ _
      refine CW.region_any (fun Hq => Nw HL1 Hq) [17] rfl ?_
      have hq8 : Nw HL1 HL1 := Mo.refl _ _
      refine LH.take 0 (by kernel_rfl) rfl (by kernel_rfl) (by kernel_rfl) (by kernel_rfl) (fun Hq hq => Y.move rfl rfl) (Wd.u rfl) rfl rfl hq8 ?_
      refine LH.take 1 (by kernel_rfl) rfl (by kernel_rfl) (by kernel_rfl) (by kernel_rfl) (fun Hq hq => Y.move rfl rfl) (Wd.u rfl) rfl rfl hq8 ?_
      refine LH.take 2 (by kernel_rfl) rfl (by kernel_rfl) (by kernel_rfl) (by kernel_rfl) (fun Hq hq => Y.move rfl rfl) (Wd.u rfl) rfl rfl hq8 ?_
      have hil : i < out.length := by omega
      obtain ⟨f1, f2, f3, f4, f5, f6, f7, f8⟩ := hof out[i] (List.getElem_mem hil)
      have holm := od.len
      refine LH.take 3 (by kernel_rfl) rfl (by kernel_rfl) (by kernel_rfl) (by kernel_rfl) (fun Hq hq => Y.owAddr (od.nw hq) (i) rfl Try.runUnderlying31 Try.sizeOf38 rfl rfl (by first | rfl | omega) (by first | omega | (simp; omega) | (simp; done))) (Wd.u rfl) rfl rfl hq8 ?_
      refine LH.take 4 (by kernel_rfl) rfl (by kernel_rfl) (by kernel_rfl) (by kernel_rfl) (fun Hq hq => Y.fieldAddr ((od.pt (j := i) (by first | omega | (simp; omega) | (simp; done))).nw hq) rfl Try.runUnderlying38 rfl rfl Try.sizeOf9 (by decide) rfl) (Wd.u rfl) rfl rfl hq8 ?_
      refine LH.take 5 (by kernel_rfl) rfl (by kernel_rfl) (by kernel_rfl) (by kernel_rfl) (fun Hq hq => Y.load1 (((od.pt (j := i) (by first | omega | (simp; omega) | (simp; done))).drop 0).nw hq) rfl Try.isAgg9 rfl) (Wd.u rfl) rfl rfl hq8 ?_
      refine LH.take 7 (by kernel_rfl) rfl (by kernel_rfl) (by kernel_rfl) (by kernel_rfl) (fun Hq hq => Y.move rfl rfl) (Wd.u rfl) rfl rfl hq8 ?_
      refine LH.take 8 (by kernel_rfl) rfl (by kernel_rfl) (by kernel_rfl) (by kernel_rfl) (fun Hq hq => Y.move rfl rfl) (Wd.u rfl) rfl rfl hq8 ?_
      refine LH.take 9 (by kernel_rfl) rfl (by kernel_rfl) (by kernel_rfl) (by kernel_rfl) (fun Hq hq => Y.move rfl rfl) (Wd.u rfl) rfl rfl hq8 ?_
      refine LH.take 10 (by kernel_rfl) rfl (by kernel_rfl) (by kernel_rfl) (by kernel_rfl) (fun Hq hq => Y.owAddr (od.nw hq) (i) rfl Try.runUnderlying31 Try.sizeOf38 rfl rfl (by first | rfl | omega) (by first | omega | (simp; omega) | (simp; done))) (Wd.u rfl) rfl rfl hq8 ?_
      refine LH.take 11 (by kernel_rfl) rfl (by kernel_rfl) (by kernel_rfl) (by kernel_rfl) (fun Hq hq => Y.fieldAddr ((od.pt (j := i) (by first | omega | (simp; omega) | (simp; done))).nw hq) rfl Try.runUnderlying38 rfl rfl Try.sizeOf9 (by decide) rfl) (Wd.u rfl) rfl rfl hq8 ?_
      refine LH.take 12 (by kernel_rfl) rfl (by kernel_rfl) (by kernel_rfl) (by kernel_rfl) (fun Hq hq => Y.load1 (((od.pt (j := i) (by first | omega | (simp; omega) | (simp; done))).drop 1).nw hq) rfl Try.isAgg9 rfl) (Wd.u rfl) rfl rfl hq8 ?_
      refine LH.three (i := 6) (j := 14) (m := 15) (by kernel_rfl) ?_ ?_ ?_
      ·
        -- call selvage/selvageref15.Find
        refine LO.call rfl rfl Try.call19 rfl (Wd.u rfl) rfl rfl (find_ct v13 ga out[i].o w0 _ oga.rd.any) (fun v32 H32 r32 => ?_)
        obtain ⟨rfl, hs32⟩ := r32
        replace ha := ha.nw hs32
        replace hb := hb.nw hs32
        replace hx := fun x hx0 => (hx x hx0).nw hs32
        replace hy := fun x hy0 => (hy x hy0).nw hs32
        replace oga := oga.nw hs32
        replace gax := fun x hx_ => (gax x hx_).nw hs32
        replace ogb := ogb.nw hs32
        replace gbx := fun x hx_ => (gbx x hx_).nw hs32
        replace oc := oc.nw hs32
        replace od := od.nw hs32
        replace hm0 := hm0.tr hs32
        replace hlm1 := hlm1.tr hs32
        replace hcm14 := hcm14.tr hs32
        replace hq8 := hq8.tr hs32
        have hz7 := hs32.size
        refine ⟨.inr hq8, LH.narrow (SH2 := fun Hq => Nw H32 Hq) (fun Hq hq => hq8.tr hq) ?_⟩
        have hq8 : Nw H32 H32 := Mo.refl _ _
        refine LH.three (i := 13) (j := 14) (m := 15) (by kernel_rfl) ?_ ?_ ?_
        ·
          -- call selvage/selvageref15.Find
          refine LO.call rfl rfl Try.call19 rfl (Wd.u rfl) rfl rfl (find_ct v15 gb out[i].n w0 _ ogb.rd.any) (fun v39 H39 r39 => ?_)
          obtain ⟨rfl, hs39⟩ := r39
          replace ha := ha.nw hs39
          replace hb := hb.nw hs39
          replace hx := fun x hx0 => (hx x hx0).nw hs39
          replace hy := fun x hy0 => (hy x hy0).nw hs39
          replace oga := oga.nw hs39
          replace gax := fun x hx_ => (gax x hx_).nw hs39
          replace ogb := ogb.nw hs39
          replace gbx := fun x hx_ => (gbx x hx_).nw hs39
          replace oc := oc.nw hs39
          replace od := od.nw hs39
          replace hm0 := hm0.tr hs39
          replace hlm1 := hlm1.tr hs39
          replace hcm14 := hcm14.tr hs39
          replace hq8 := hq8.tr hs39
          have hz8 := hs39.size
          refine ⟨.inr hq8, LH.narrow (SH2 := fun Hq => Nw H39 Hq) (fun Hq hq => hq8.tr hq) ?_⟩
          have hq8 : Nw H39 H39 := Mo.refl _ _
          refine LH.two (i := 14) (j := 15) (by kernel_rfl) ?_ ?_
          ·
            refine LO.z rfl (Z.allocv rfl Try.zeroValue35) (Wd.u rfl) rfl rfl (fun v7 H7 r7 => ?_)
            obtain ⟨rfl, vx7, hs7, ob7, hH7⟩ := r7
            have hzs7 : H7.size = H39.size + 1 := by rw [hH7]; simp
            have df32 := (DF.new (bf_ha.mono hm0.size) : DF _ (H39.size + 1))
            have df33 := (DF.new (bf_hb.mono hm0.size) : DF _ (H39.size + 1))
            have df34 := (DF.new (bf_hx.mono hm0.size) : DF _ (H39.size + 1))
            have df35 := (DF.new (bf_hy.mono hm0.size) : DF _ (H39.size + 1))
            have dj36 : Dj koga (H39.size + 1) := Dj.new oga.le
            have df37 := (DF.new (bf_gax.mono (by omega)) : DF _ (H39.size + 1))
            have dj38 : Dj kogb (H39.size + 1) := Dj.new ogb.le
            have df39 := (DF.new (bf_gbx.mono (by omega)) : DF _ (H39.size + 1))
            have dj40 : Dj kc (H39.size + 1) := Dj.new oc.le
            have dj41 : Dj kd (H39.size + 1) := Dj.new od.le
            have nx42 : Nx 0 H0.size (H39.size + 1) := Nx.new hm0.size
            have nx43 : Nx 0 H19.size (H39.size + 1) := Nx.new hlm1.size
            have nx44 : Nx 0 HL1.size (H39.size + 1) := Nx.new hcm14.size
            have nx45 : Nx 0 H39.size (H39.size + 1) := Nx.new hq8.size
            replace ha := ha.nw hs7
            replace hb := hb.nw hs7
            replace hx := fun x hx0 => (hx x hx0).nw hs7
            replace hy := fun x hy0 => (hy x hy0).nw hs7
            replace oga := oga.nw hs7
            replace gax := fun x hx_ => (gax x hx_).nw hs7
            replace ogb := ogb.nw hs7
            replace gbx := fun x hx_ => (gbx x hx_).nw hs7
            replace oc := oc.nw hs7
            replace od := od.nw hs7
            replace hm0 := hm0.tr hs7
            replace hlm1 := hlm1.tr hs7
            replace hcm14 := hcm14.tr hs7
            replace hq8 := hq8.tr hs7
            have hz9 := hs7.size
            refine ⟨.inr hq8, LH.narrow (SH2 := fun Hq => Mo (Ms [(H39.size + 1)]) H7 Hq) (fun Hq hq => (Mo.trL (ks := []) (hq8.mdn []) hq (MIL.cons (MI.app MI.z (nx45) (Nat.le_refl _)) MIL.nil)).nil) ?_⟩
            have hq8 : Mo (Ms [(H39.size + 1)]) H7 H7 := Mo.refl _ _
            have nx46 := Nx.refl (H39.size + 1) H7.size
            refine LH.one (i := 15) (by kernel_rfl) ?_
            refine LO.z rfl (Z.allocv rfl Try.zeroValue35) (Wd.u rfl) rfl rfl (fun v8 H8 r8 => ?_)
            obtain ⟨rfl, vy8, hs8, ob8, hH8⟩ := r8
            have hzs8 : H8.size = H7.size + 1 := by rw [hH8]; simp
            have df47 := (DF.new (bf_ha.mono hm0.size) : DF _ (H7.size + 1))
            have df48 := (DF.new (bf_hb.mono hm0.size) : DF _ (H7.size + 1))
            have df49 := (DF.new (bf_hx.mono hm0.size) : DF _ (H7.size + 1))
            have df50 := (DF.new (bf_hy.mono hm0.size) : DF _ (H7.size + 1))
            have dj51 : Dj koga (H7.size + 1) := Dj.new oga.le
            have df52 := (DF.new (bf_gax.mono (by omega)) : DF _ (H7.size + 1))
            have dj53 : Dj kogb (H7.size + 1) := Dj.new ogb.le
            have df54 := (DF.new (bf_gbx.mono (by omega)) : DF _ (H7.size + 1))
            have dj55 : Dj kc (H7.size + 1) := Dj.new oc.le
            have dj56 : Dj kd (H7.size + 1) := Dj.new od.le
            have dj57 : Dj (H39.size + 1) (H7.size + 1) := Dj.new vx7.lt
            have nx58 : Nx 0 H0.size (H7.size + 1) := Nx.new hm0.size
            have nx59 : Nx 0 H19.size (H7.size + 1) := Nx.new hlm1.size
            have nx60 : Nx 0 HL1.size (H7.size + 1) := Nx.new hcm14.size
            have nx61 : Nx 0 H7.size (H7.size + 1) := Nx.new hq8.size
            replace ha := ha.nw hs8
            replace hb := hb.nw hs8
            replace hx := fun x hx0 => (hx x hx0).nw hs8
            replace hy := fun x hy0 => (hy x hy0).nw hs8
            replace oga := oga.nw hs8
            replace gax := fun x hx_ => (gax x hx_).nw hs8
            replace ogb := ogb.nw hs8
            replace gbx := fun x hx_ => (gbx x hx_).nw hs8
            replace oc := oc.nw hs8
            replace od := od.nw hs8
            replace vx7 := vx7.nw hs8
            replace hm0 := hm0.tr hs8
            replace hlm1 := hlm1.tr hs8
            replace hcm14 := hcm14.tr hs8
            replace hq8 := hq8.trN hs8
            have hz10 := hs8.size
            refine ⟨.inr hq8, LH.narrow (SH2 := fun Hq => Mo (Ms [(H39.size + 1), (H7.size + 1)]) H8 Hq) (fun Hq hq => hq8.trL hq (MIL.cons (MI.app (MI.root (by simp)) (nx46) (Nat.le_refl _)) (MIL.cons (MI.app MI.z (nx61) (Nat.le_refl _)) MIL.nil))) ?_⟩
            have hq8 : Mo (Ms [(H39.size + 1), (H7.size + 1)]) H8 H8 := Mo.refl _ _
            have nx62 := Nx.refl (H39.size + 1) H8.size
            have nx63 := Nx.refl (H7.size + 1) H8.size
            refine LH.one (i := 16) (by kernel_rfl) ?_
            refine LO.s rfl (S.var vx7 (_) (fFl (findF ga out[i].o)) rfl rfl rfl rfl (fFl_one (findF ga out[i].o)) Try.sizeOf35 (rfl) (Nat.le_of_ble_eq_true rfl) (rfl)) (Wd.u rfl) rfl (fun H8_16 r8_16 => ?_)
            obtain ⟨vx7, hs8_16⟩ := r8_16
            replace hs8_16 := hs8_16.md1
            replace ha := ha.upL hs8_16 (DFL.cons df32 DFL.nil)
            replace hb := hb.upL hs8_16 (DFL.cons df33 DFL.nil)
            replace hx := fun x hx0 => (hx x hx0).upL hs8_16 (DFL.cons df34 DFL.nil)
            replace hy := fun x hy0 => (hy x hy0).upL hs8_16 (DFL.cons df35 DFL.nil)
            replace oga := oga.upL hs8_16 (DL.cons dj36 DL.nil)
            replace gax := fun x hx_ => (gax x hx_).upL hs8_16 (DFL.cons df37 DFL.nil)
            replace ogb := ogb.upL hs8_16 (DL.cons dj38 DL.nil)
            replace gbx := fun x hx_ => (gbx x hx_).upL hs8_16 (DFL.cons df39 DFL.nil)
            replace oc := oc.upL hs8_16 (DL.cons dj40 DL.nil)
            replace od := od.upL hs8_16 (DL.cons dj41 DL.nil)
            replace vy8 := vy8.upL hs8_16 (DL.cons dj57.symm DL.nil)
            replace hm0 := (Mo.trL (ks := []) (hm0.mdn []) hs8_16 (MIL.cons (MI.app MI.z (nx42) (Nat.le_refl _)) MIL.nil)).nil
            replace hlm1 := (Mo.trL (ks := []) (hlm1.mdn []) hs8_16 (MIL.cons (MI.app MI.z (nx43) (Nat.le_refl _)) MIL.nil)).nil
            replace hcm14 := (Mo.trL (ks := []) (hcm14.mdn []) hs8_16 (MIL.cons (MI.app MI.z (nx44) (Nat.le_refl _)) MIL.nil)).nil
            replace hq8 := hq8.trL hs8_16 (MIL.cons (MI.app (MI.root (by simp)) (nx62) (Nat.le_refl _)) MIL.nil)
            have hz11 := hs8_16.size
            refine ⟨.inr hq8, LH.narrow (SH2 := fun Hq => Mo (Ms [(H39.size + 1), (H7.size + 1)]) H8_16 Hq) (fun Hq hq => hq8.trL hq (MIL.cons (MI.app (MI.root (by simp)) (nx62) (Nat.le_refl _)) (MIL.cons (MI.app (MI.root (by simp)) (nx63) (Nat.le_refl _)) MIL.nil))) ?_⟩
            have hq8 : Mo (Ms [(H39.size + 1), (H7.size + 1)]) H8_16 H8_16 := Mo.refl _ _
            have nx64 := Nx.refl (H39.size + 1) H8_16.size
            have nx65 := Nx.refl (H7.size + 1) H8_16.size
            refine LH.one (i := 17) (by kernel_rfl) ?_
            refine LO.s rfl (S.var vy8 (_) (fFl (findF gb out[i].n)) rfl rfl rfl rfl (fFl_one (findF gb out[i].n)) Try.sizeOf35 (rfl) (Nat.le_of_ble_eq_true rfl) (rfl)) (Wd.u rfl) rfl (fun H8_17 r8_17 => ?_)
            obtain ⟨vy8, hs8_17⟩ := r8_17
            replace hs8_17 := hs8_17.md1
            replace ha := ha.upL hs8_17 (DFL.cons df47 DFL.nil)
            replace hb := hb.upL hs8_17 (DFL.cons df48 DFL.nil)
            replace hx := fun x hx0 => (hx x hx0).upL hs8_17 (DFL.cons df49 DFL.nil)
            replace hy := fun x hy0 => (hy x hy0).upL hs8_17 (DFL.cons df50 DFL.nil)
            replace oga := oga.upL hs8_17 (DL.cons dj51 DL.nil)
            replace gax := fun x hx_ => (gax x hx_).upL hs8_17 (DFL.cons df52 DFL.nil)
            replace ogb := ogb.upL hs8_17 (DL.cons dj53 DL.nil)
            replace gbx := fun x hx_ => (gbx x hx_).upL hs8_17 (DFL.cons df54 DFL.nil)
            replace oc := oc.upL hs8_17 (DL.cons dj55 DL.nil)
            replace od := od.upL hs8_17 (DL.cons dj56 DL.nil)
            replace vx7 := vx7.upL hs8_17 (DL.cons dj57 DL.nil)
            replace hm0 := (Mo.trL (ks := []) (hm0.mdn []) hs8_17 (MIL.cons (MI.app MI.z (nx58) (Nat.le_refl _)) MIL.nil)).nil
            replace hlm1 := (Mo.trL (ks := []) (hlm1.mdn []) hs8_17 (MIL.cons (MI.app MI.z (nx59) (Nat.le_refl _)) MIL.nil)).nil
            replace hcm14 := (Mo.trL (ks := []) (hcm14.mdn []) hs8_17 (MIL.cons (MI.app MI.z (nx60) (Nat.le_refl _)) MIL.nil)).nil
            replace hq8 := hq8.trL hs8_17 (MIL.cons (MI.app (MI.root (by simp)) (nx65) (Nat.le_refl _)) MIL.nil)
            have hz12 := hs8_17.size
            refine ⟨.inl rfl, ?_⟩
            refine LH.done (by kernel_rfl) ?_
            refine QN.sub (hK14 ((H39.size + 1) - 1, (H7.size + 1) - 1) _ ?_) ⟨rfl, rfl, rfl, (iv (by omega)), rfl, rfl, trivial⟩
            exact ⟨⟨vx7, vy8⟩, hcm14⟩
          ·
            refine LO.z rfl (Z.allocv rfl Try.zeroValue35) (Wd.u rfl) rfl rfl (fun v8 H8 r8 => ?_)
            obtain ⟨rfl, vy8, hs8, ob8, hH8⟩ := r8
            have hzs8 : H8.size = H39.size + 1 := by rw [hH8]; simp
            have df66 := (DF.new (bf_ha.mono hm0.size) : DF _ (H39.size + 1))
            have df67 := (DF.new (bf_hb.mono hm0.size) : DF _ (H39.size + 1))
            have df68 := (DF.new (bf_hx.mono hm0.size) : DF _ (H39.size + 1))
            have df69 := (DF.new (bf_hy.mono hm0.size) : DF _ (H39.size + 1))
            have dj70 : Dj koga (H39.size + 1) := Dj.new oga.le
            have df71 := (DF.new (bf_gax.mono (by omega)) : DF _ (H39.size + 1))
            have dj72 : Dj kogb (H39.size + 1) := Dj.new ogb.le
            have df73 := (DF.new (bf_gbx.mono (by omega)) : DF _ (H39.size + 1))
            have dj74 : Dj kc (H39.size + 1) := Dj.new oc.le
            have dj75 : Dj kd (H39.size + 1) := Dj.new od.le
            have nx76 : Nx 0 H0.size (H39.size + 1) := Nx.new hm0.size
            have nx77 : Nx 0 H19.size (H39.size + 1) := Nx.new hlm1.size
            have nx78 : Nx 0 HL1.size (H39.size + 1) := Nx.new hcm14.size
            have nx79 : Nx 0 H39.size (H39.size + 1) := Nx.new hq8.size
            replace ha := ha.nw hs8
            replace hb := hb.nw hs8
            replace hx := fun x hx0 => (hx x hx0).nw hs8
            replace hy := fun x hy0 => (hy x hy0).nw hs8
            replace oga := oga.nw hs8
            replace gax := fun x hx_ => (gax x hx_).nw hs8
            replace ogb := ogb.nw hs8
            replace gbx := fun x hx_ => (gbx x hx_).nw hs8
            replace oc := oc.nw hs8
            replace od := od.nw hs8
            replace hm0 := hm0.tr hs8
            replace hlm1 := hlm1.tr hs8
            replace hcm14 := hcm14.tr hs8
            replace hq8 := hq8.tr hs8
            have hz13 := hs8.size
            refine ⟨.inr hq8, LH.narrow (SH2 := fun Hq => Mo (Ms [(H39.size + 1)]) H8 Hq) (fun Hq hq => (Mo.trL (ks := []) (hq8.mdn []) hq (MIL.cons (MI.app MI.z (nx79) (Nat.le_refl _)) MIL.nil)).nil) ?_⟩
            have hq8 : Mo (Ms [(H39.size + 1)]) H8 H8 := Mo.refl _ _
            have nx80 := Nx.refl (H39.size + 1) H8.size
            refine LH.one (i := 14) (by kernel_rfl) ?_
            refine LO.z rfl (Z.allocv rfl Try.zeroValue35) (Wd.u rfl) rfl rfl (fun v7 H7 r7 => ?_)
            obtain ⟨rfl, vx7, hs7, ob7, hH7⟩ := r7
            have hzs7 : H7.size = H8.size + 1 := by rw [hH7]; simp
            have df81 := (DF.new (bf_ha.mono hm0.size) : DF _ (H8.size + 1))
            have df82 := (DF.new (bf_hb.mono hm0.size) : DF _ (H8.size + 1))
            have df83 := (DF.new (bf_hx.mono hm0.size) : DF _ (H8.size + 1))
            have df84 := (DF.new (bf_hy.mono hm0.size) : DF _ (H8.size + 1))
            have dj85 : Dj koga (H8.size + 1) := Dj.new oga.le
            have df86 := (DF.new (bf_gax.mono (by omega)) : DF _ (H8.size + 1))
            have dj87 : Dj kogb (H8.size + 1) := Dj.new ogb.le
            have df88 := (DF.new (bf_gbx.mono (by omega)) : DF _ (H8.size + 1))
            have dj89 : Dj kc (H8.size + 1) := Dj.new oc.le
            have dj90 : Dj kd (H8.size + 1) := Dj.new od.le
            have dj91 : Dj (H39.size + 1) (H8.size + 1) := Dj.new vy8.lt
            have nx92 : Nx 0 H0.size (H8.size + 1) := Nx.new hm0.size
            have nx93 : Nx 0 H19.size (H8.size + 1) := Nx.new hlm1.size
            have nx94 : Nx 0 HL1.size (H8.size + 1) := Nx.new hcm14.size
            have nx95 : Nx 0 H8.size (H8.size + 1) := Nx.new hq8.size
            replace ha := ha.nw hs7
            replace hb := hb.nw hs7
            replace hx := fun x hx0 => (hx x hx0).nw hs7
            replace hy := fun x hy0 => (hy x hy0).nw hs7
            replace oga := oga.nw hs7
            replace gax := fun x hx_ => (gax x hx_).nw hs7
            replace ogb := ogb.nw hs7
            replace gbx := fun x hx_ => (gbx x hx_).nw hs7
            replace oc := oc.nw hs7
            replace od := od.nw hs7
            replace vy8 := vy8.nw hs7
            replace hm0 := hm0.tr hs7
            replace hlm1 := hlm1.tr hs7
            replace hcm14 := hcm14.tr hs7
            replace hq8 := hq8.trN hs7
            have hz14 := hs7.size
            refine ⟨.inr hq8, LH.narrow (SH2 := fun Hq => Mo (Ms [(H39.size + 1), (H8.size + 1)]) H7 Hq) (fun Hq hq => hq8.trL hq (MIL.cons (MI.app (MI.root (by simp)) (nx80) (Nat.le_refl _)) (MIL.cons (MI.app MI.z (nx95) (Nat.le_refl _)) MIL.nil))) ?_⟩
            have hq8 : Mo (Ms [(H39.size + 1), (H8.size + 1)]) H7 H7 := Mo.refl _ _
            have nx96 := Nx.refl (H39.size + 1) H7.size
            have nx97 := Nx.refl (H8.size + 1) H7.size
            refine LH.one (i := 16) (by kernel_rfl) ?_
            refine LO.s rfl (S.var vx7 (_) (fFl (findF ga out[i].o)) rfl rfl rfl rfl (fFl_one (findF ga out[i].o)) Try.sizeOf35 (rfl) (Nat.le_of_ble_eq_true rfl) (rfl)) (Wd.u rfl) rfl (fun H8_16 r8_16 => ?_)
            obtain ⟨vx7, hs8_16⟩ := r8_16
            replace hs8_16 := hs8_16.md1
            replace ha := ha.upL hs8_16 (DFL.cons df81 DFL.nil)
            replace hb := hb.upL hs8_16 (DFL.cons df82 DFL.nil)
            replace hx := fun x hx0 => (hx x hx0).upL hs8_16 (DFL.cons df83 DFL.nil)
            replace hy := fun x hy0 => (hy x hy0).upL hs8_16 (DFL.cons df84 DFL.nil)
            replace oga := oga.upL hs8_16 (DL.cons dj85 DL.nil)
            replace gax := fun x hx_ => (gax x hx_).upL hs8_16 (DFL.cons df86 DFL.nil)
            replace ogb := ogb.upL hs8_16 (DL.cons dj87 DL.nil)
            replace gbx := fun x hx_ => (gbx x hx_).upL hs8_16 (DFL.cons df88 DFL.nil)
            replace oc := oc.upL hs8_16 (DL.cons dj89 DL.nil)
            replace od := od.upL hs8_16 (DL.cons dj90 DL.nil)
            replace vy8 := vy8.upL hs8_16 (DL.cons dj91 DL.nil)
            replace hm0 := (Mo.trL (ks := []) (hm0.mdn []) hs8_16 (MIL.cons (MI.app MI.z (nx92) (Nat.le_refl _)) MIL.nil)).nil
            replace hlm1 := (Mo.trL (ks := []) (hlm1.mdn []) hs8_16 (MIL.cons (MI.app MI.z (nx93) (Nat.le_refl _)) MIL.nil)).nil
            replace hcm14 := (Mo.trL (ks := []) (hcm14.mdn []) hs8_16 (MIL.cons (MI.app MI.z (nx94) (Nat.le_refl _)) MIL.nil)).nil
            replace hq8 := hq8.trL hs8_16 (MIL.cons (MI.app (MI.root (by simp)) (nx97) (Nat.le_refl _)) MIL.nil)
            have hz15 := hs8_16.size
            refine ⟨.inr hq8, LH.narrow (SH2 := fun Hq => Mo (Ms [(H39.size + 1), (H8.size + 1)]) H8_16 Hq) (fun Hq hq => hq8.trL hq (MIL.cons (MI.app (MI.root (by simp)) (nx96) (Nat.le_refl _)) (MIL.cons (MI.app (MI.root (by simp)) (nx97) (Nat.le_refl _)) MIL.nil))) ?_⟩
            have hq8 : Mo (Ms [(H39.size + 1), (H8.size + 1)]) H8_16 H8_16 := Mo.refl _ _
            have nx98 := Nx.refl (H39.size + 1) H8_16.size
            have nx99 := Nx.refl (H8.size + 1) H8_16.size
            refine LH.one (i := 17) (by kernel_rfl) ?_
            refine LO.s rfl (S.var vy8 (_) (fFl (findF gb out[i].n)) rfl rfl rfl rfl (fFl_one (findF gb out[i].n)) Try.sizeOf35 (rfl) (Nat.le_of_ble_eq_true rfl) (rfl)) (Wd.u rfl) rfl (fun H8_17 r8_17 => ?_)
            obtain ⟨vy8, hs8_17⟩ := r8_17
            replace hs8_17 := hs8_17.md1
            replace ha := ha.upL hs8_17 (DFL.cons df66 DFL.nil)
            replace hb := hb.upL hs8_17 (DFL.cons df67 DFL.nil)
            replace hx := fun x hx0 => (hx x hx0).upL hs8_17 (DFL.cons df68 DFL.nil)
            replace hy := fun x hy0 => (hy x hy0).upL hs8_17 (DFL.cons df69 DFL.nil)
            replace oga := oga.upL hs8_17 (DL.cons dj70 DL.nil)
            replace gax := fun x hx_ => (gax x hx_).upL hs8_17 (DFL.cons df71 DFL.nil)
            replace ogb := ogb.upL hs8_17 (DL.cons dj72 DL.nil)
            replace gbx := fun x hx_ => (gbx x hx_).upL hs8_17 (DFL.cons df73 DFL.nil)
            replace oc := oc.upL hs8_17 (DL.cons dj74 DL.nil)
            replace od := od.upL hs8_17 (DL.cons dj75 DL.nil)
            replace vx7 := vx7.upL hs8_17 (DL.cons dj91.symm DL.nil)
            replace hm0 := (Mo.trL (ks := []) (hm0.mdn []) hs8_17 (MIL.cons (MI.app MI.z (nx76) (Nat.le_refl _)) MIL.nil)).nil
            replace hlm1 := (Mo.trL (ks := []) (hlm1.mdn []) hs8_17 (MIL.cons (MI.app MI.z (nx77) (Nat.le_refl _)) MIL.nil)).nil
            replace hcm14 := (Mo.trL (ks := []) (hcm14.mdn []) hs8_17 (MIL.cons (MI.app MI.z (nx78) (Nat.le_refl _)) MIL.nil)).nil
            replace hq8 := hq8.trL hs8_17 (MIL.cons (MI.app (MI.root (by simp)) (nx98) (Nat.le_refl _)) MIL.nil)
            have hz16 := hs8_17.size
            refine ⟨.inl rfl, ?_⟩
            refine LH.done (by kernel_rfl) ?_
            refine QN.sub (hK14 ((H8.size + 1) - 1, (H39.size + 1) - 1) _ ?_) ⟨rfl, rfl, rfl, (iv (by omega)), rfl, rfl, trivial⟩
            exact ⟨⟨vx7, vy8⟩, hcm14⟩
        ·
          refine LO.z rfl (Z.allocv rfl Try.zeroValue35) (Wd.u rfl) rfl rfl (fun v7 H7 r7 => ?_)
          obtain ⟨rfl, vx7, hs7, ob7, hH7⟩ := r7
          have hzs7 : H7.size = H32.size + 1 := by rw [hH7]; simp
          have df100 := (DF.new (bf_ha.mono hm0.size) : DF _ (H32.size + 1))
          have df101 := (DF.new (bf_hb.mono hm0.size) : DF _ (H32.size + 1))
          have df102 := (DF.new (bf_hx.mono hm0.size) : DF _ (H32.size + 1))
          have df103 := (DF.new (bf_hy.mono hm0.size) : DF _ (H32.size + 1))
          have dj104 : Dj koga (H32.size + 1) := Dj.new oga.le
          have df105 := (DF.new (bf_gax.mono (by omega)) : DF _ (H32.size + 1))
          have dj106 : Dj kogb (H32.size + 1) := Dj.new ogb.le
          have df107 := (DF.new (bf_gbx.mono (by omega)) : DF _ (H32.size + 1))
          have dj108 : Dj kc (H32.size + 1) := Dj.new oc.le
          have dj109 : Dj kd (H32.size + 1) := Dj.new od.le
          have nx110 : Nx 0 H0.size (H32.size + 1) := Nx.new hm0.size
          have nx111 : Nx 0 H19.size (H32.size + 1) := Nx.new hlm1.size
          have nx112 : Nx 0 HL1.size (H32.size + 1) := Nx.new hcm14.size
          have nx113 : Nx 0 H32.size (H32.size + 1) := Nx.new hq8.size
          replace ha := ha.nw hs7
          replace hb := hb.nw hs7
          replace hx := fun x hx0 => (hx x hx0).nw hs7
          replace hy := fun x hy0 => (hy x hy0).nw hs7
          replace oga := oga.nw hs7
          replace gax := fun x hx_ => (gax x hx_).nw hs7
          replace ogb := ogb.nw hs7
          replace gbx := fun x hx_ => (gbx x hx_).nw hs7
          replace oc := oc.nw hs7
          replace od := od.nw hs7
          replace hm0 := hm0.tr hs7
          replace hlm1 := hlm1.tr hs7
          replace hcm14 := hcm14.tr hs7
          replace hq8 := hq8.tr hs7
          have hz17 := hs7.size
          refine ⟨.inr hq8, LH.narrow (SH2 := fun Hq => Mo (Ms [(H32.size + 1)]) H7 Hq) (fun Hq hq => (Mo.trL (ks := []) (hq8.mdn []) hq (MIL.cons (MI.app MI.z (nx113) (Nat.le_refl _)) MIL.nil)).nil) ?_⟩
          have hq8 : Mo (Ms [(H32.size + 1)]) H7 H7 := Mo.refl _ _
          have nx114 := Nx.refl (H32.size + 1) H7.size
          refine LH.two (i := 13) (j := 15) (by kernel_rfl) ?_ ?_
          ·
            -- call selvage/selvageref15.Find
            refine LO.call rfl rfl Try.call19 rfl (Wd.u rfl) rfl rfl (find_ct v15 gb out[i].n w0 _ ogb.rd.any) (fun v39 H39 r39 => ?_)
            obtain ⟨rfl, hs39⟩ := r39
            replace ha := ha.nw hs39
            replace hb := hb.nw hs39
            replace hx := fun x hx0 => (hx x hx0).nw hs39
            replace hy := fun x hy0 => (hy x hy0).nw hs39
            replace oga := oga.nw hs39
            replace gax := fun x hx_ => (gax x hx_).nw hs39
            replace ogb := ogb.nw hs39
            replace gbx := fun x hx_ => (gbx x hx_).nw hs39
            replace oc := oc.nw hs39
            replace od := od.nw hs39
            replace vx7 := vx7.nw hs39
            replace hm0 := hm0.tr hs39
            replace hlm1 := hlm1.tr hs39
            replace hcm14 := hcm14.tr hs39
            replace hq8 := hq8.trN hs39
            have hz18 := hs39.size
            refine ⟨.inr hq8, LH.narrow (SH2 := fun Hq => Mo (Ms [(H32.size + 1)]) H39 Hq) (fun Hq hq => hq8.trL hq (MIL.cons (MI.app (MI.root (by simp)) (nx114) (Nat.le_refl _)) MIL.nil)) ?_⟩
            have hq8 : Mo (Ms [(H32.size + 1)]) H39 H39 := Mo.refl _ _
            have nx115 := Nx.refl (H32.size + 1) H39.size
            refine LH.one (i := 15) (by kernel_rfl) ?_
            refine LO.z rfl (Z.allocv rfl Try.zeroValue35) (Wd.u rfl) rfl rfl (fun v8 H8 r8 => ?_)
            obtain ⟨rfl, vy8, hs8, ob8, hH8⟩ := r8
            have hzs8 : H8.size = H39.size + 1 := by rw [hH8]; simp
            have df116 := (DF.new (bf_ha.mono hm0.size) : DF _ (H39.size + 1))
            have df117 := (DF.new (bf_hb.mono hm0.size) : DF _ (H39.size + 1))
            have df118 := (DF.new (bf_hx.mono hm0.size) : DF _ (H39.size + 1))
            have df119 := (DF.new (bf_hy.mono hm0.size) : DF _ (H39.size + 1))
            have dj120 : Dj koga (H39.size + 1) := Dj.new oga.le
            have df121 := (DF.new (bf_gax.mono (by omega)) : DF _ (H39.size + 1))
            have dj122 : Dj kogb (H39.size + 1) := Dj.new ogb.le
            have df123 := (DF.new (bf_gbx.mono (by omega)) : DF _ (H39.size + 1))
            have dj124 : Dj kc (H39.size + 1) := Dj.new oc.le
            have dj125 : Dj kd (H39.size + 1) := Dj.new od.le
            have dj126 : Dj (H32.size + 1) (H39.size + 1) := Dj.new vx7.lt
            have nx127 : Nx 0 H0.size (H39.size + 1) := Nx.new hm0.size
            have nx128 : Nx 0 H19.size (H39.size + 1) := Nx.new hlm1.size
            have nx129 : Nx 0 HL1.size (H39.size + 1) := Nx.new hcm14.size
            have nx130 : Nx 0 H39.size (H39.size + 1) := Nx.new hq8.size
            replace ha := ha.nw hs8
            replace hb := hb.nw hs8
            replace hx := fun x hx0 => (hx x hx0).nw hs8
            replace hy := fun x hy0 => (hy x hy0).nw hs8
            replace oga := oga.nw hs8
            replace gax := fun x hx_ => (gax x hx_).nw hs8
            replace ogb := ogb.nw hs8
            replace gbx := fun x hx_ => (gbx x hx_).nw hs8
            replace oc := oc.nw hs8
            replace od := od.nw hs8
            replace vx7 := vx7.nw hs8
            replace hm0 := hm0.tr hs8
            replace hlm1 := hlm1.tr hs8
            replace hcm14 := hcm14.tr hs8
            replace hq8 := hq8.trN hs8
            have hz19 := hs8.size
            refine ⟨.inr hq8, LH.narrow (SH2 := fun Hq => Mo (Ms [(H32.size + 1), (H39.size + 1)]) H8 Hq) (fun Hq hq => hq8.trL hq (MIL.cons (MI.app (MI.root (by simp)) (nx115) (Nat.le_refl _)) (MIL.cons (MI.app MI.z (nx130) (Nat.le_refl _)) MIL.nil))) ?_⟩
            have hq8 : Mo (Ms [(H32.size + 1), (H39.size + 1)]) H8 H8 := Mo.refl _ _
            have nx131 := Nx.refl (H32.size + 1) H8.size
            have nx132 := Nx.refl (H39.size + 1) H8.size
            refine LH.one (i := 16) (by kernel_rfl) ?_
            refine LO.s rfl (S.var vx7 (_) (fFl (findF ga out[i].o)) rfl rfl rfl rfl (fFl_one (findF ga out[i].o)) Try.sizeOf35 (rfl) (Nat.le_of_ble_eq_true rfl) (rfl)) (Wd.u rfl) rfl (fun H8_16 r8_16 => ?_)
            obtain ⟨vx7, hs8_16⟩ := r8_16
            replace hs8_16 := hs8_16.md1
            replace ha := ha.upL hs8_16 (DFL.cons df100 DFL.nil)
            replace hb := hb.upL hs8_16 (DFL.cons df101 DFL.nil)
            replace hx := fun x hx0 => (hx x hx0).upL hs8_16 (DFL.cons df102 DFL.nil)
            replace hy := fun x hy0 => (hy x hy0).upL hs8_16 (DFL.cons df103 DFL.nil)
            replace oga := oga.upL hs8_16 (DL.cons dj104 DL.nil)
            replace gax := fun x hx_ => (gax x hx_).upL hs8_16 (DFL.cons df105 DFL.nil)
            replace ogb := ogb.upL hs8_16 (DL.cons dj106 DL.nil)
            replace gbx := fun x hx_ => (gbx x hx_).upL hs8_16 (DFL.cons df107 DFL.nil)
            replace oc := oc.upL hs8_16 (DL.cons dj108 DL.nil)
            replace od := od.upL hs8_16 (DL.cons dj109 DL.nil)
            replace vy8 := vy8.upL hs8_16 (DL.cons dj126.symm DL.nil)
            replace hm0 := (Mo.trL (ks := []) (hm0.mdn []) hs8_16 (MIL.cons (MI.app MI.z (nx110) (Nat.le_refl _)) MIL.nil)).nil
            replace hlm1 := (Mo.trL (ks := []) (hlm1.mdn []) hs8_16 (MIL.cons (MI.app MI.z (nx111) (Nat.le_refl _)) MIL.nil)).nil
            replace hcm14 := (Mo.trL (ks := []) (hcm14.mdn []) hs8_16 (MIL.cons (MI.app MI.z (nx112) (Nat.le_refl _)) MIL.nil)).nil
            replace hq8 := hq8.trL hs8_16 (MIL.cons (MI.app (MI.root (by simp)) (nx131) (Nat.le_refl _)) MIL.nil)
            have hz20 := hs8_16.size
            refine ⟨.inr hq8, LH.narrow (SH2 := fun Hq => Mo (Ms [(H32.size + 1), (H39.size + 1)]) H8_16 Hq) (fun Hq hq => hq8.trL hq (MIL.cons (MI.app (MI.root (by simp)) (nx131) (Nat.le_refl _)) (MIL.cons (MI.app (MI.root (by simp)) (nx132) (Nat.le_refl _)) MIL.nil))) ?_⟩
            have hq8 : Mo (Ms [(H32.size + 1), (H39.size + 1)]) H8_16 H8_16 := Mo.refl _ _
            have nx133 := Nx.refl (H32.size + 1) H8_16.size
            have nx134 := Nx.refl (H39.size + 1) H8_16.size
            refine LH.one (i := 17) (by kernel_rfl) ?_
            refine LO.s rfl (S.var vy8 (_) (fFl (findF gb out[i].n)) rfl rfl rfl rfl (fFl_one (findF gb out[i].n)) Try.sizeOf35 (rfl) (Nat.le_of_ble_eq_true rfl) (rfl)) (Wd.u rfl) rfl (fun H8_17 r8_17 => ?_)
            obtain ⟨vy8, hs8_17⟩ := r8_17
            replace hs8_17 := hs8_17.md1
            replace ha := ha.upL hs8_17 (DFL.cons df116 DFL.nil)
            replace hb := hb.upL hs8_17 (DFL.cons df117 DFL.nil)
            replace hx := fun x hx0 => (hx x hx0).upL hs8_17 (DFL.cons df118 DFL.nil)
            replace hy := fun x hy0 => (hy x hy0).upL hs8_17 (DFL.cons df119 DFL.nil)
            replace oga := oga.upL hs8_17 (DL.cons dj120 DL.nil)
            replace gax := fun x hx_ => (gax x hx_).upL hs8_17 (DFL.cons df121 DFL.nil)
            replace ogb := ogb.upL hs8_17 (DL.cons dj122 DL.nil)
            replace gbx := fun x hx_ => (gbx x hx_).upL hs8_17 (DFL.cons df123 DFL.nil)
            replace oc := oc.upL hs8_17 (DL.cons dj124 DL.nil)
            replace od := od.upL hs8_17 (DL.cons dj125 DL.nil)
            replace vx7 := vx7.upL hs8_17 (DL.cons dj126 DL.nil)
            replace hm0 := (Mo.trL (ks := []) (hm0.mdn []) hs8_17 (MIL.cons (MI.app MI.z (nx127) (Nat.le_refl _)) MIL.nil)).nil
            replace hlm1 := (Mo.trL (ks := []) (hlm1.mdn []) hs8_17 (MIL.cons (MI.app MI.z (nx128) (Nat.le_refl _)) MIL.nil)).nil
            replace hcm14 := (Mo.trL (ks := []) (hcm14.mdn []) hs8_17 (MIL.cons (MI.app MI.z (nx129) (Nat.le_refl _)) MIL.nil)).nil
            replace hq8 := hq8.trL hs8_17 (MIL.cons (MI.app (MI.root (by simp)) (nx134) (Nat.le_refl _)) MIL.nil)
            have hz21 := hs8_17.size
            refine ⟨.inl rfl, ?_⟩
            refine LH.done (by kernel_rfl) ?_
            refine QN.sub (hK14 ((H32.size + 1) - 1, (H39.size + 1) - 1) _ ?_) ⟨rfl, rfl, rfl, (iv (by omega)), rfl, rfl, trivial⟩
            exact ⟨⟨vx7, vy8⟩, hcm14⟩
          ·
            refine LO.z rfl (Z.allocv rfl Try.zeroValue35) (Wd.u rfl) rfl rfl (fun v8 H8 r8 => ?_)
            obtain ⟨rfl, vy8, hs8, ob8, hH8⟩ := r8
            have hzs8 : H8.size = H7.size + 1 := by rw [hH8]; simp
            have df135 := (DF.new (bf_ha.mono hm0.size) : DF _ (H7.size + 1))
            have df136 := (DF.new (bf_hb.mono hm0.size) : DF _ (H7.size + 1))
            have df137 := (DF.new (bf_hx.mono hm0.size) : DF _ (H7.size + 1))
            have df138 := (DF.new (bf_hy.mono hm0.size) : DF _ (H7.size + 1))
            have dj139 : Dj koga (H7.size + 1) := Dj.new oga.le
            have df140 := (DF.new (bf_gax.mono (by omega)) : DF _ (H7.size + 1))
            have dj141 : Dj kogb (H7.size + 1) := Dj.new ogb.le
            have df142 := (DF.new (bf_gbx.mono (by omega)) : DF _ (H7.size + 1))
            have dj143 : Dj kc (H7.size + 1) := Dj.new oc.le
            have dj144 : Dj kd (H7.size + 1) := Dj.new od.le
            have dj145 : Dj (H32.size + 1) (H7.size + 1) := Dj.new vx7.lt
            have nx146 : Nx 0 H0.size (H7.size + 1) := Nx.new hm0.size
            have nx147 : Nx 0 H19.size (H7.size + 1) := Nx.new hlm1.size
            have nx148 : Nx 0 HL1.size (H7.size + 1) := Nx.new hcm14.size
            have nx149 : Nx 0 H7.size (H7.size + 1) := Nx.new hq8.size
            replace ha := ha.nw hs8
            replace hb := hb.nw hs8
            replace hx := fun x hx0 => (hx x hx0).nw hs8
            replace hy := fun x hy0 => (hy x hy0).nw hs8
            replace oga := oga.nw hs8
            replace gax := fun x hx_ => (gax x hx_).nw hs8
            replace ogb := ogb.nw hs8
            replace gbx := fun x hx_ => (gbx x hx_).nw hs8
            replace oc := oc.nw hs8
            replace od := od.nw hs8
            replace vx7 := vx7.nw hs8
            replace hm0 := hm0.tr hs8
            replace hlm1 := hlm1.tr hs8
            replace hcm14 := hcm14.tr hs8
            replace hq8 := hq8.trN hs8
            have hz22 := hs8.size
            refine ⟨.inr hq8, LH.narrow (SH2 := fun Hq => Mo (Ms [(H32.size + 1), (H7.size + 1)]) H8 Hq) (fun Hq hq => hq8.trL hq (MIL.cons (MI.app (MI.root (by simp)) (nx114) (Nat.le_refl _)) (MIL.cons (MI.app MI.z (nx149) (Nat.le_refl _)) MIL.nil))) ?_⟩
            have hq8 : Mo (Ms [(H32.size + 1), (H7.size + 1)]) H8 H8 := Mo.refl _ _
            have nx150 := Nx.refl (H32.size + 1) H8.size
            have nx151 := Nx.refl (H7.size + 1) H8.size
            refine LH.one (i := 13) (by kernel_rfl) ?_
            -- call selvage/selvageref15.Find
            refine LO.call rfl rfl Try.call19 rfl (Wd.u rfl) rfl rfl (find_ct v15 gb out[i].n w0 _ ogb.rd.any) (fun v39 H39 r39 => ?_)
            obtain ⟨rfl, hs39⟩ := r39
            replace ha := ha.nw hs39
            replace hb := hb.nw hs39
            replace hx := fun x hx0 => (hx x hx0).nw hs39
            replace hy := fun x hy0 => (hy x hy0).nw hs39
            replace oga := oga.nw hs39
            replace gax := fun x hx_ => (gax x hx_).nw hs39
            replace ogb := ogb.nw hs39
            replace gbx := fun x hx_ => (gbx x hx_).nw hs39
            replace oc := oc.nw hs39
            replace od := od.nw hs39
            replace vx7 := vx7.nw hs39
            replace vy8 := vy8.nw hs39
            replace hm0 := hm0.tr hs39
            replace hlm1 := hlm1.tr hs39
            replace hcm14 := hcm14.tr hs39
            replace hq8 := hq8.trN hs39
            have hz23 := hs39.size
            refine ⟨.inr hq8, LH.narrow (SH2 := fun Hq => Mo (Ms [(H32.size + 1), (H7.size + 1)]) H39 Hq) (fun Hq hq => hq8.trL hq (MIL.cons (MI.app (MI.root (by simp)) (nx150) (Nat.le_refl _)) (MIL.cons (MI.app (MI.root (by simp)) (nx151) (Nat.le_refl _)) MIL.nil))) ?_⟩
            have hq8 : Mo (Ms [(H32.size + 1), (H7.size + 1)]) H39 H39 := Mo.refl _ _
            have nx152 := Nx.refl (H32.size + 1) H39.size
            have nx153 := Nx.refl (H7.size + 1) H39.size
            refine LH.one (i := 16) (by kernel_rfl) ?_
            refine LO.s rfl (S.var vx7 (_) (fFl (findF ga out[i].o)) rfl rfl rfl rfl (fFl_one (findF ga out[i].o)) Try.sizeOf35 (rfl) (Nat.le_of_ble_eq_true rfl) (rfl)) (Wd.u rfl) rfl (fun H8_16 r8_16 => ?_)
            obtain ⟨vx7, hs8_16⟩ := r8_16
            replace hs8_16 := hs8_16.md1
            replace ha := ha.upL hs8_16 (DFL.cons df100 DFL.nil)
            replace hb := hb.upL hs8_16 (DFL.cons df101 DFL.nil)
            replace hx := fun x hx0 => (hx x hx0).upL hs8_16 (DFL.cons df102 DFL.nil)
            replace hy := fun x hy0 => (hy x hy0).upL hs8_16 (DFL.cons df103 DFL.nil)
            replace oga := oga.upL hs8_16 (DL.cons dj104 DL.nil)
            replace gax := fun x hx_ => (gax x hx_).upL hs8_16 (DFL.cons df105 DFL.nil)
            replace ogb := ogb.upL hs8_16 (DL.cons dj106 DL.nil)
            replace gbx := fun x hx_ => (gbx x hx_).upL hs8_16 (DFL.cons df107 DFL.nil)
            replace oc := oc.upL hs8_16 (DL.cons dj108 DL.nil)
            replace od := od.upL hs8_16 (DL.cons dj109 DL.nil)
            replace vy8 := vy8.upL hs8_16 (DL.cons dj145.symm DL.nil)
            replace hm0 := (Mo.trL (ks := []) (hm0.mdn []) hs8_16 (MIL.cons (MI.app MI.z (nx110) (Nat.le_refl _)) MIL.nil)).nil
            replace hlm1 := (Mo.trL (ks := []) (hlm1.mdn []) hs8_16 (MIL.cons (MI.app MI.z (nx111) (Nat.le_refl _)) MIL.nil)).nil
            replace hcm14 := (Mo.trL (ks := []) (hcm14.mdn []) hs8_16 (MIL.cons (MI.app MI.z (nx112) (Nat.le_refl _)) MIL.nil)).nil
            replace hq8 := hq8.trL hs8_16 (MIL.cons (MI.app (MI.root (by simp)) (nx152) (Nat.le_refl _)) MIL.nil)
            have hz24 := hs8_16.size
            refine ⟨.inr hq8, LH.narrow (SH2 := fun Hq => Mo (Ms [(H32.size + 1), (H7.size + 1)]) H8_16 Hq) (fun Hq hq => hq8.trL hq (MIL.cons (MI.app (MI.root (by simp)) (nx152) (Nat.le_refl _)) (MIL.cons (MI.app (MI.root (by simp)) (nx153) (Nat.le_refl _)) MIL.nil))) ?_⟩
            have hq8 : Mo (Ms [(H32.size + 1), (H7.size + 1)]) H8_16 H8_16 := Mo.refl _ _
            have nx154 := Nx.refl (H32.size + 1) H8_16.size
            have nx155 := Nx.refl (H7.size + 1) H8_16.size
            refine LH.one (i := 17) (by kernel_rfl) ?_
            refine LO.s rfl (S.var vy8 (_) (fFl (findF gb out[i].n)) rfl rfl rfl rfl (fFl_one (findF gb out[i].n)) Try.sizeOf35 (rfl) (Nat.le_of_ble_eq_true rfl) (rfl)) (Wd.u rfl) rfl (fun H8_17 r8_17 => ?_)
            obtain ⟨vy8, hs8_17⟩ := r8_17
            replace hs8_17 := hs8_17.md1
            replace ha := ha.upL hs8_17 (DFL.cons df135 DFL.nil)
            replace hb := hb.upL hs8_17 (DFL.cons df136 DFL.nil)
            replace hx := fun x hx0 => (hx x hx0).upL hs8_17 (DFL.cons df137 DFL.nil)
            replace hy := fun x hy0 => (hy x hy0).upL hs8_17 (DFL.cons df138 DFL.nil)
            replace oga := oga.upL hs8_17 (DL.cons dj139 DL.nil)
            replace gax := fun x hx_ => (gax x hx_).upL hs8_17 (DFL.cons df140 DFL.nil)
            replace ogb := ogb.upL hs8_17 (DL.cons dj141 DL.nil)
            replace gbx := fun x hx_ => (gbx x hx_).upL hs8_17 (DFL.cons df142 DFL.nil)
            replace oc := oc.upL hs8_17 (DL.cons dj143 DL.nil)
            replace od := od.upL hs8_17 (DL.cons dj144 DL.nil)
            replace vx7 := vx7.upL hs8_17 (DL.cons dj145 DL.nil)
            replace hm0 := (Mo.trL (ks := []) (hm0.mdn []) hs8_17 (MIL.cons (MI.app MI.z (nx146) (Nat.le_refl _)) MIL.nil)).nil
            replace hlm1 := (Mo.trL (ks := []) (hlm1.mdn []) hs8_17 (MIL.cons (MI.app MI.z (nx147) (Nat.le_refl _)) MIL.nil)).nil
            replace hcm14 := (Mo.trL (ks := []) (hcm14.mdn []) hs8_17 (MIL.cons (MI.app MI.z (nx148) (Nat.le_refl _)) MIL.nil)).nil
            replace hq8 := hq8.trL hs8_17 (MIL.cons (MI.app (MI.root (by simp)) (nx155) (Nat.le_refl _)) MIL.nil)
            have hz25 := hs8_17.size
            refine ⟨.inl rfl, ?_⟩
            refine LH.done (by kernel_rfl) ?_
            refine QN.sub (hK14 ((H32.size + 1) - 1, (H7.size + 1) - 1) _ ?_) ⟨rfl, rfl, rfl, (iv (by omega)), rfl, rfl, trivial⟩
            exact ⟨⟨vx7, vy8⟩, hcm14⟩
        ·
          refine LO.z rfl (Z.allocv rfl Try.zeroValue35) (Wd.u rfl) rfl rfl (fun v8 H8 r8 => ?_)
          obtain ⟨rfl, vy8, hs8, ob8, hH8⟩ := r8
          have hzs8 : H8.size = H32.size + 1 := by rw [hH8]; simp
          have df156 := (DF.new (bf_ha.mono hm0.size) : DF _ (H32.size + 1))
          have df157 := (DF.new (bf_hb.mono hm0.size) : DF _ (H32.size + 1))
          have df158 := (DF.new (bf_hx.mono hm0.size) : DF _ (H32.size + 1))
          have df159 := (DF.new (bf_hy.mono hm0.size) : DF _ (H32.size + 1))
          have dj160 : Dj koga (H32.size + 1) := Dj.new oga.le
          have df161 := (DF.new (bf_gax.mono (by omega)) : DF _ (H32.size + 1))
          have dj162 : Dj kogb (H32.size + 1) := Dj.new ogb.le
          have df163 := (DF.new (bf_gbx.mono (by omega)) : DF _ (H32.size + 1))
          have dj164 : Dj kc (H32.size + 1) := Dj.new oc.le
          have dj165 : Dj kd (H32.size + 1) := Dj.new od.le
          have nx166 : Nx 0 H0.size (H32.size + 1) := Nx.new hm0.size
          have nx167 : Nx 0 H19.size (H32.size + 1) := Nx.new hlm1.size
          have nx168 : Nx 0 HL1.size (H32.size + 1) := Nx.new hcm14.size
          have nx169 : Nx 0 H32.size (H32.size + 1) := Nx.new hq8.size
          replace ha := ha.nw hs8
          replace hb := hb.nw hs8
          replace hx := fun x hx0 => (hx x hx0).nw hs8
          replace hy := fun x hy0 => (hy x hy0).nw hs8
          replace oga := oga.nw hs8
          replace gax := fun x hx_ => (gax x hx_).nw hs8
          replace ogb := ogb.nw hs8
          replace gbx := fun x hx_ => (gbx x hx_).nw hs8
          replace oc := oc.nw hs8
          replace od := od.nw hs8
          replace hm0 := hm0.tr hs8
          replace hlm1 := hlm1.tr hs8
          replace hcm14 := hcm14.tr hs8
          replace hq8 := hq8.tr hs8
          have hz26 := hs8.size
          refine ⟨.inr hq8, LH.narrow (SH2 := fun Hq => Mo (Ms [(H32.size + 1)]) H8 Hq) (fun Hq hq => (Mo.trL (ks := []) (hq8.mdn []) hq (MIL.cons (MI.app MI.z (nx169) (Nat.le_refl _)) MIL.nil)).nil) ?_⟩
          have hq8 : Mo (Ms [(H32.size + 1)]) H8 H8 := Mo.refl _ _
          have nx170 := Nx.refl (H32.size + 1) H8.size
          refine LH.two (i := 13) (j := 14) (by kernel_rfl) ?_ ?_
          ·
            -- call selvage/selvageref15.Find
            refine LO.call rfl rfl Try.call19 rfl (Wd.u rfl) rfl rfl (find_ct v15 gb out[i].n w0 _ ogb.rd.any) (fun v39 H39 r39 => ?_)
            obtain ⟨rfl, hs39⟩ := r39
            replace ha := ha.nw hs39
            replace hb := hb.nw hs39
            replace hx := fun x hx0 => (hx x hx0).nw hs39
            replace hy := fun x hy0 => (hy x hy0).nw hs39
            replace oga := oga.nw hs39
            replace gax := fun x hx_ => (gax x hx_).nw hs39
            replace ogb := ogb.nw hs39
            replace gbx := fun x hx_ => (gbx x hx_).nw hs39
            replace oc := oc.nw hs39
            replace od := od.nw hs39
            replace vy8 := vy8.nw hs39
            replace hm0 := hm0.tr hs39
            replace hlm1 := hlm1.tr hs39
            replace hcm14 := hcm14.tr hs39
            replace hq8 := hq8.trN hs39
            have hz27 := hs39.size
            refine ⟨.inr hq8, LH.narrow (SH2 := fun Hq => Mo (Ms [(H32.size + 1)]) H39 Hq) (fun Hq hq => hq8.trL hq (MIL.cons (MI.app (MI.root (by simp)) (nx170) (Nat.le_refl _)) MIL.nil)) ?_⟩
            have hq8 : Mo (Ms [(H32.size + 1)]) H39 H39 := Mo.refl _ _
            have nx171 := Nx.refl (H32.size + 1) H39.size
            refine LH.one (i := 14) (by kernel_rfl) ?_
            refine LO.z rfl (Z.allocv rfl Try.zeroValue35) (Wd.u rfl) rfl rfl (fun v7 H7 r7 => ?_)
            obtain ⟨rfl, vx7, hs7, ob7, hH7⟩ := r7
            have hzs7 : H7.size = H39.size + 1 := by rw [hH7]; simp
            have df172 := (DF.new (bf_ha.mono hm0.size) : DF _ (H39.size + 1))
            have df173 := (DF.new (bf_hb.mono hm0.size) : DF _ (H39.size + 1))
            have df174 := (DF.new (bf_hx.mono hm0.size) : DF _ (H39.size + 1))
            have df175 := (DF.new (bf_hy.mono hm0.size) : DF _ (H39.size + 1))
            have dj176 : Dj koga (H39.size + 1) := Dj.new oga.le
            have df177 := (DF.new (bf_gax.mono (by omega)) : DF _ (H39.size + 1))
            have dj178 : Dj kogb (H39.size + 1) := Dj.new ogb.le
            have df179 := (DF.new (bf_gbx.mono (by omega)) : DF _ (H39.size + 1))
            have dj180 : Dj kc (H39.size + 1) := Dj.new oc.le
            have dj181 : Dj kd (H39.size + 1) := Dj.new od.le
            have dj182 : Dj (H32.size + 1) (H39.size + 1) := Dj.new vy8.lt
            have nx183 : Nx 0 H0.size (H39.size + 1) := Nx.new hm0.size
            have nx184 : Nx 0 H19.size (H39.size + 1) := Nx.new hlm1.size
            have nx185 : Nx 0 HL1.size (H39.size + 1) := Nx.new hcm14.size
            have nx186 : Nx 0 H39.size (H39.size + 1) := Nx.new hq8.size
            replace ha := ha.nw hs7
            replace hb := hb.nw hs7
            replace hx := fun x hx0 => (hx x hx0).nw hs7
            replace hy := fun x hy0 => (hy x hy0).nw hs7
            replace oga := oga.nw hs7
            replace gax := fun x hx_ => (gax x hx_).nw hs7
            replace ogb := ogb.nw hs7
            replace gbx := fun x hx_ => (gbx x hx_).nw hs7
            replace oc := oc.nw hs7
            replace od := od.nw hs7
            replace vy8 := vy8.nw hs7
            replace hm0 := hm0.tr hs7
            replace hlm1 := hlm1.tr hs7
            replace hcm14 := hcm14.tr hs7
            replace hq8 := hq8.trN hs7
            have hz28 := hs7.size
            refine ⟨.inr hq8, LH.narrow (SH2 := fun Hq => Mo (Ms [(H32.size + 1), (H39.size + 1)]) H7 Hq) (fun Hq hq => hq8.trL hq (MIL.cons (MI.app (MI.root (by simp)) (nx171) (Nat.le_refl _)) (MIL.cons (MI.app MI.z (nx186) (Nat.le_refl _)) MIL.nil))) ?_⟩
            have hq8 : Mo (Ms [(H32.size + 1), (H39.size + 1)]) H7 H7 := Mo.refl _ _
            have nx187 := Nx.refl (H32.size + 1) H7.size
            have nx188 := Nx.refl (H39.size + 1) H7.size
            refine LH.one (i := 16) (by kernel_rfl) ?_
            refine LO.s rfl (S.var vx7 (_) (fFl (findF ga out[i].o)) rfl rfl rfl rfl (fFl_one (findF ga out[i].o)) Try.sizeOf35 (rfl) (Nat.le_of_ble_eq_true rfl) (rfl)) (Wd.u rfl) rfl (fun H8_16 r8_16 => ?_)
            obtain ⟨vx7, hs8_16⟩ := r8_16
            replace hs8_16 := hs8_16.md1
            replace ha := ha.upL hs8_16 (DFL.cons df172 DFL.nil)
            replace hb := hb.upL hs8_16 (DFL.cons df173 DFL.nil)
            replace hx := fun x hx0 => (hx x hx0).upL hs8_16 (DFL.cons df174 DFL.nil)
            replace hy := fun x hy0 => (hy x hy0).upL hs8_16 (DFL.cons df175 DFL.nil)
            replace oga := oga.upL hs8_16 (DL.cons dj176 DL.nil)
            replace gax := fun x hx_ => (gax x hx_).upL hs8_16 (DFL.cons df177 DFL.nil)
            replace ogb := ogb.upL hs8_16 (DL.cons dj178 DL.nil)
            replace gbx := fun x hx_ => (gbx x hx_).upL hs8_16 (DFL.cons df179 DFL.nil)
            replace oc := oc.upL hs8_16 (DL.cons dj180 DL.nil)
            replace od := od.upL hs8_16 (DL.cons dj181 DL.nil)
            replace vy8 := vy8.upL hs8_16 (DL.cons dj182 DL.nil)
            replace hm0 := (Mo.trL (ks := []) (hm0.mdn []) hs8_16 (MIL.cons (MI.app MI.z (nx183) (Nat.le_refl _)) MIL.nil)).nil
            replace hlm1 := (Mo.trL (ks := []) (hlm1.mdn []) hs8_16 (MIL.cons (MI.app MI.z (nx184) (Nat.le_refl _)) MIL.nil)).nil
            replace hcm14 := (Mo.trL (ks := []) (hcm14.mdn []) hs8_16 (MIL.cons (MI.app MI.z (nx185) (Nat.le_refl _)) MIL.nil)).nil
            replace hq8 := hq8.trL hs8_16 (MIL.cons (MI.app (MI.root (by simp)) (nx188) (Nat.le_refl _)) MIL.nil)
            have hz29 := hs8_16.size
            refine ⟨.inr hq8, LH.narrow (SH2 := fun Hq => Mo (Ms [(H32.size + 1), (H39.size + 1)]) H8_16 Hq) (fun Hq hq => hq8.trL hq (MIL.cons (MI.app (MI.root (by simp)) (nx187) (Nat.le_refl _)) (MIL.cons (MI.app (MI.root (by simp)) (nx188) (Nat.le_refl _)) MIL.nil))) ?_⟩
            have hq8 : Mo (Ms [(H32.size + 1), (H39.size + 1)]) H8_16 H8_16 := Mo.refl _ _
            have nx189 := Nx.refl (H32.size + 1) H8_16.size
            have nx190 := Nx.refl (H39.size + 1) H8_16.size
            refine LH.one (i := 17) (by kernel_rfl) ?_
            refine LO.s rfl (S.var vy8 (_) (fFl (findF gb out[i].n)) rfl rfl rfl rfl (fFl_one (findF gb out[i].n)) Try.sizeOf35 (rfl) (Nat.le_of_ble_eq_true rfl) (rfl)) (Wd.u rfl) rfl (fun H8_17 r8_17 => ?_)
            obtain ⟨vy8, hs8_17⟩ := r8_17
            replace hs8_17 := hs8_17.md1
            replace ha := ha.upL hs8_17 (DFL.cons df156 DFL.nil)
            replace hb := hb.upL hs8_17 (DFL.cons df157 DFL.nil)
            replace hx := fun x hx0 => (hx x hx0).upL hs8_17 (DFL.cons df158 DFL.nil)
            replace hy := fun x hy0 => (hy x hy0).upL hs8_17 (DFL.cons df159 DFL.nil)
            replace oga := oga.upL hs8_17 (DL.cons dj160 DL.nil)
            replace gax := fun x hx_ => (gax x hx_).upL hs8_17 (DFL.cons df161 DFL.nil)
            replace ogb := ogb.upL hs8_17 (DL.cons dj162 DL.nil)
            replace gbx := fun x hx_ => (gbx x hx_).upL hs8_17 (DFL.cons df163 DFL.nil)
            replace oc := oc.upL hs8_17 (DL.cons dj164 DL.nil)
            replace od := od.upL hs8_17 (DL.cons dj165 DL.nil)
            replace vx7 := vx7.upL hs8_17 (DL.cons dj182.symm DL.nil)
            replace hm0 := (Mo.trL (ks := []) (hm0.mdn []) hs8_17 (MIL.cons (MI.app MI.z (nx166) (Nat.le_refl _)) MIL.nil)).nil
            replace hlm1 := (Mo.trL (ks := []) (hlm1.mdn []) hs8_17 (MIL.cons (MI.app MI.z (nx167) (Nat.le_refl _)) MIL.nil)).nil
            replace hcm14 := (Mo.trL (ks := []) (hcm14.mdn []) hs8_17 (MIL.cons (MI.app MI.z (nx168) (Nat.le_refl _)) MIL.nil)).nil
            replace hq8 := hq8.trL hs8_17 (MIL.cons (MI.app (MI.root (by simp)) (nx189) (Nat.le_refl _)) MIL.nil)
            have hz30 := hs8_17.size
            refine ⟨.inl rfl, ?_⟩
            refine LH.done (by kernel_rfl) ?_
            refine QN.sub (hK14 ((H39.size + 1) - 1, (H32.size + 1) - 1) _ ?_) ⟨rfl, rfl, rfl, (iv (by omega)), rfl, rfl, trivial⟩
            exact ⟨⟨vx7, vy8⟩, hcm14⟩
          ·
            refine LO.z rfl (Z.allocv rfl Try.zeroValue35) (Wd.u rfl) rfl rfl (fun v7 H7 r7 => ?_)
            obtain ⟨rfl, vx7, hs7, ob7, hH7⟩ := r7
            have hzs7 : H7.size = H8.size + 1 := by rw [hH7]; simp
            have df191 := (DF.new (bf_ha.mono hm0.size) : DF _ (H8.size + 1))
            have df192 := (DF.new (bf_hb.mono hm0.size) : DF _ (H8.size + 1))
            have df193 := (DF.new (bf_hx.mono hm0.size) : DF _ (H8.size + 1))
            have df194 := (DF.new (bf_hy.mono hm0.size) : DF _ (H8.size + 1))
            have dj195 : Dj koga (H8.size + 1) := Dj.new oga.le
            have df196 := (DF.new (bf_gax.mono (by omega)) : DF _ (H8.size + 1))
            have dj197 : Dj kogb (H8.size + 1) := Dj.new ogb.le
            have df198 := (DF.new (bf_gbx.mono (by omega)) : DF _ (H8.size + 1))
            have dj199 : Dj kc (H8.size + 1) := Dj.new oc.le
            have dj200 : Dj kd (H8.size + 1) := Dj.new od.le
            have dj201 : Dj (H32.size + 1) (H8.size + 1) := Dj.new vy8.lt
            have nx202 : Nx 0 H0.size (H8.size + 1) := Nx.new hm0.size
            have nx203 : Nx 0 H19.size (H8.size + 1) := Nx.new hlm1.size
            have nx204 : Nx 0 HL1.size (H8.size + 1) := Nx.new hcm14.size
            have nx205 : Nx 0 H8.size (H8.size + 1) := Nx.new hq8.size
            replace ha := ha.nw hs7
            replace hb := hb.nw hs7
            replace hx := fun x hx0 => (hx x hx0).nw hs7
            replace hy := fun x hy0 => (hy x hy0).nw hs7
            replace oga := oga.nw hs7
            replace gax := fun x hx_ => (gax x hx_).nw hs7
            replace ogb := ogb.nw hs7
            replace gbx := fun x hx_ => (gbx x hx_).nw hs7
            replace oc := oc.nw hs7
            replace od := od.nw hs7
            replace vy8 := vy8.nw hs7
            replace hm0 := hm0.tr hs7
            replace hlm1 := hlm1.tr hs7
            replace hcm14 := hcm14.tr hs7
            replace hq8 := hq8.trN hs7
            have hz31 := hs7.size
            refine ⟨.inr hq8, LH.narrow (SH2 := fun Hq => Mo (Ms [(H32.size + 1), (H8.size + 1)]) H7 Hq) (fun Hq hq => hq8.trL hq (MIL.cons (MI.app (MI.root (by simp)) (nx170) (Nat.le_refl _)) (MIL.cons (MI.app MI.z (nx205) (Nat.le_refl _)) MIL.nil))) ?_⟩
            have hq8 : Mo (Ms [(H32.size + 1), (H8.size + 1)]) H7 H7 := Mo.refl _ _
            have nx206 := Nx.refl (H32.size + 1) H7.size
            have nx207 := Nx.refl (H8.size + 1) H7.size
            refine LH.one (i := 13) (by kernel_rfl) ?_
            -- call selvage/selvageref15.Find
            refine LO.call rfl rfl Try.call19 rfl (Wd.u rfl) rfl rfl (find_ct v15 gb out[i].n w0 _ ogb.rd.any) (fun v39 H39 r39 => ?_)
            obtain ⟨rfl, hs39⟩ := r39
            replace ha := ha.nw hs39
            replace hb := hb.nw hs39
            replace hx := fun x hx0 => (hx x hx0).nw hs39
            replace hy := fun x hy0 => (hy x hy0).nw hs39
            replace oga := oga.nw hs39
            replace gax := fun x hx_ => (gax x hx_).nw hs39
            replace ogb := ogb.nw hs39
            replace gbx := fun x hx_ => (gbx x hx_).nw hs39
            replace oc := oc.nw hs39
            replace od := od.nw hs39
            replace vy8 := vy8.nw hs39
            replace vx7 := vx7.nw hs39
            replace hm0 := hm0.tr hs39
            replace hlm1 := hlm1.tr hs39
            replace hcm14 := hcm14.tr hs39
            replace hq8 := hq8.trN hs39
            have hz32 := hs39.size
            refine ⟨.inr hq8, LH.narrow (SH2 := fun Hq => Mo (Ms [(H32.size + 1), (H8.size + 1)]) H39 Hq) (fun Hq hq => hq8.trL hq (MIL.cons (MI.app (MI.root (by simp)) (nx206) (Nat.le_refl _)) (MIL.cons (MI.app (MI.root (by simp)) (nx207) (Nat.le_refl _)) MIL.nil))) ?_⟩
            have hq8 : Mo (Ms [(H32.size + 1), (H8.size + 1)]) H39 H39 := Mo.refl _ _
            have nx208 := Nx.refl (H32.size + 1) H39.size
            have nx209 := Nx.refl (H8.size + 1) H39.size
            refine LH.one (i := 16) (by kernel_rfl) ?_
            refine LO.s rfl (S.var vx7 (_) (fFl (findF ga out[i].o)) rfl rfl rfl rfl (fFl_one (findF ga out[i].o)) Try.sizeOf35 (rfl) (Nat.le_of_ble_eq_true rfl) (rfl)) (Wd.u rfl) rfl (fun H8_16 r8_16 => ?_)
            obtain ⟨vx7, hs8_16⟩ := r8_16
            replace hs8_16 := hs8_16.md1
            replace ha := ha.upL hs8_16 (DFL.cons df191 DFL.nil)
            replace hb := hb.upL hs8_16 (DFL.cons df192 DFL.nil)
            replace hx := fun x hx0 => (hx x hx0).upL hs8_16 (DFL.cons df193 DFL.nil)
            replace hy := fun x hy0 => (hy x hy0).upL hs8_16 (DFL.cons df194 DFL.nil)
            replace oga := oga.upL hs8_16 (DL.cons dj195 DL.nil)
            replace gax := fun x hx_ => (gax x hx_).upL hs8_16 (DFL.cons df196 DFL.nil)
            replace ogb := ogb.upL hs8_16 (DL.cons dj197 DL.nil)
            replace gbx := fun x hx_ => (gbx x hx_).upL hs8_16 (DFL.cons df198 DFL.nil)
            replace oc := oc.upL hs8_16 (DL.cons dj199 DL.nil)
            replace od := od.upL hs8_16 (DL.cons dj200 DL.nil)
            replace vy8 := vy8.upL hs8_16 (DL.cons dj201 DL.nil)
            replace hm0 := (Mo.trL (ks := []) (hm0.mdn []) hs8_16 (MIL.cons (MI.app MI.z (nx202) (Nat.le_refl _)) MIL.nil)).nil
            replace hlm1 := (Mo.trL (ks := []) (hlm1.mdn []) hs8_16 (MIL.cons (MI.app MI.z (nx203) (Nat.le_refl _)) MIL.nil)).nil
            replace hcm14 := (Mo.trL (ks := []) (hcm14.mdn []) hs8_16 (MIL.cons (MI.app MI.z (nx204) (Nat.le_refl _)) MIL.nil)).nil
            replace hq8 := hq8.trL hs8_16 (MIL.cons (MI.app (MI.root (by simp)) (nx209) (Nat.le_refl _)) MIL.nil)
            have hz33 := hs8_16.size
            refine ⟨.inr hq8, LH.narrow (SH2 := fun Hq => Mo (Ms [(H32.size + 1), (H8.size + 1)]) H8_16 Hq) (fun Hq hq => hq8.trL hq (MIL.cons (MI.app (MI.root (by simp)) (nx208) (Nat.le_refl _)) (MIL.cons (MI.app (MI.root (by simp)) (nx209) (Nat.le_refl _)) MIL.nil))) ?_⟩
            have hq8 : Mo (Ms [(H32.size + 1), (H8.size + 1)]) H8_16 H8_16 := Mo.refl _ _
            have nx210 := Nx.refl (H32.size + 1) H8_16.size
            have nx211 := Nx.refl (H8.size + 1) H8_16.size
            refine LH.one (i := 17) (by kernel_rfl) ?_
            refine LO.s rfl (S.var vy8 (_) (fFl (findF gb out[i].n)) rfl rfl rfl rfl (fFl_one (findF gb out[i].n)) Try.sizeOf35 (rfl) (Nat.le_of_ble_eq_true rfl) (rfl)) (Wd.u rfl) rfl (fun H8_17 r8_17 => ?_)
            obtain ⟨vy8, hs8_17⟩ := r8_17
            replace hs8_17 := hs8_17.md1
            replace ha := ha.upL hs8_17 (DFL.cons df156 DFL.nil)
            replace hb := hb.upL hs8_17 (DFL.cons df157 DFL.nil)
            replace hx := fun x hx0 => (hx x hx0).upL hs8_17 (DFL.cons df158 DFL.nil)
            replace hy := fun x hy0 => (hy x hy0).upL hs8_17 (DFL.cons df159 DFL.nil)
            replace oga := oga.upL hs8_17 (DL.cons dj160 DL.nil)
            replace gax := fun x hx_ => (gax x hx_).upL hs8_17 (DFL.cons df161 DFL.nil)
            replace ogb := ogb.upL hs8_17 (DL.cons dj162 DL.nil)
            replace gbx := fun x hx_ => (gbx x hx_).upL hs8_17 (DFL.cons df163 DFL.nil)
            replace oc := oc.upL hs8_17 (DL.cons dj164 DL.nil)
            replace od := od.upL hs8_17 (DL.cons dj165 DL.nil)
            replace vx7 := vx7.upL hs8_17 (DL.cons dj201.symm DL.nil)
            replace hm0 := (Mo.trL (ks := []) (hm0.mdn []) hs8_17 (MIL.cons (MI.app MI.z (nx166) (Nat.le_refl _)) MIL.nil)).nil
            replace hlm1 := (Mo.trL (ks := []) (hlm1.mdn []) hs8_17 (MIL.cons (MI.app MI.z (nx167) (Nat.le_refl _)) MIL.nil)).nil
            replace hcm14 := (Mo.trL (ks := []) (hcm14.mdn []) hs8_17 (MIL.cons (MI.app MI.z (nx168) (Nat.le_refl _)) MIL.nil)).nil
            replace hq8 := hq8.trL hs8_17 (MIL.cons (MI.app (MI.root (by simp)) (nx210) (Nat.le_refl _)) MIL.nil)
            have hz34 := hs8_17.size
            refine ⟨.inl rfl, ?_⟩
            refine LH.done (by kernel_rfl) ?_
            refine QN.sub (hK14 ((H8.size + 1) - 1, (H32.size + 1) - 1) _ ?_) ⟨rfl, rfl, rfl, (iv (by omega)), rfl, rfl, trivial⟩
            exact ⟨⟨vx7, vy8⟩, hcm14⟩
      ·
        refine LO.z rfl (Z.allocv rfl Try.zeroValue35) (Wd.u rfl) rfl rfl (fun v7 H7 r7 => ?_)
        obtain ⟨rfl, vx7, hs7, ob7, hH7⟩ := r7
        have hzs7 : H7.size = HL1.size + 1 := by rw [hH7]; simp
        have df212 := (DF.new (bf_ha.mono hm0.size) : DF _ (HL1.size + 1))
        have df213 := (DF.new (bf_hb.mono hm0.size) : DF _ (HL1.size + 1))
        have df214 := (DF.new (bf_hx.mono hm0.size) : DF _ (HL1.size + 1))
        have df215 := (DF.new (bf_hy.mono hm0.size) : DF _ (HL1.size + 1))
        have dj216 : Dj koga (HL1.size + 1) := Dj.new oga.le
        have df217 := (DF.new (bf_gax.mono (by omega)) : DF _ (HL1.size + 1))
        have dj218 : Dj kogb (HL1.size + 1) := Dj.new ogb.le
        have df219 := (DF.new (bf_gbx.mono (by omega)) : DF _ (HL1.size + 1))
        have dj220 : Dj kc (HL1.size + 1) := Dj.new oc.le
        have dj221 : Dj kd (HL1.size + 1) := Dj.new od.le
        have nx222 : Nx 0 H0.size (HL1.size + 1) := Nx.new hm0.size
        have nx223 : Nx 0 H19.size (HL1.size + 1) := Nx.new hlm1.size
        have nx224 : Nx 0 HL1.size (HL1.size + 1) := Nx.new hcm14.size
        have nx225 : Nx 0 HL1.size (HL1.size + 1) := Nx.new hq8.size
        replace ha := ha.nw hs7
        replace hb := hb.nw hs7
        replace hx := fun x hx0 => (hx x hx0).nw hs7
        replace hy := fun x hy0 => (hy x hy0).nw hs7
        replace oga := oga.nw hs7
        replace gax := fun x hx_ => (gax x hx_).nw hs7
        replace ogb := ogb.nw hs7
        replace gbx := fun x hx_ => (gbx x hx_).nw hs7
        replace oc := oc.nw hs7
        replace od := od.nw hs7
        replace hm0 := hm0.tr hs7
        replace hlm1 := hlm1.tr hs7
        replace hcm14 := hcm14.tr hs7
        replace hq8 := hq8.tr hs7
        have hz35 := hs7.size
        refine ⟨.inr hq8, LH.narrow (SH2 := fun Hq => Mo (Ms [(HL1.size + 1)]) H7 Hq) (fun Hq hq => (Mo.trL (ks := []) (hq8.mdn []) hq (MIL.cons (MI.app MI.z (nx225) (Nat.le_refl _)) MIL.nil)).nil) ?_⟩
        have hq8 : Mo (Ms [(HL1.size + 1)]) H7 H7 := Mo.refl _ _
        have nx226 := Nx.refl (HL1.size + 1) H7.size
        refine LH.two (i := 6) (j := 15) (by kernel_rfl) ?_ ?_
        ·
          -- call selvage/selvageref15.Find
          refine LO.call rfl rfl Try.call19 rfl (Wd.u rfl) rfl rfl (find_ct v13 ga out[i].o w0 _ oga.rd.any) (fun v32 H32 r32 => ?_)
          obtain ⟨rfl, hs32⟩ := r32
          replace ha := ha.nw hs32
          replace hb := hb.nw hs32
          replace hx := fun x hx0 => (hx x hx0).nw hs32
          replace hy := fun x hy0 => (hy x hy0).nw hs32
          replace oga := oga.nw hs32
          replace gax := fun x hx_ => (gax x hx_).nw hs32
          replace ogb := ogb.nw hs32
          replace gbx := fun x hx_ => (gbx x hx_).nw hs32
          replace oc := oc.nw hs32
          replace od := od.nw hs32
          replace vx7 := vx7.nw hs32
          replace hm0 := hm0.tr hs32
          replace hlm1 := hlm1.tr hs32
          replace hcm14 := hcm14.tr hs32
          replace hq8 := hq8.trN hs32
          have hz36 := hs32.size
          refine ⟨.inr hq8, LH.narrow (SH2 := fun Hq => Mo (Ms [(HL1.size + 1)]) H32 Hq) (fun Hq hq => hq8.trL hq (MIL.cons (MI.app (MI.root (by simp)) (nx226) (Nat.le_refl _)) MIL.nil)) ?_⟩
          have hq8 : Mo (Ms [(HL1.size + 1)]) H32 H32 := Mo.refl _ _
          have nx227 := Nx.refl (HL1.size + 1) H32.size
          refine LH.two (i := 13) (j := 15) (by kernel_rfl) ?_ ?_
          ·
            -- call selvage/selvageref15.Find
            refine LO.call rfl rfl Try.call19 rfl (Wd.u rfl) rfl rfl (find_ct v15 gb out[i].n w0 _ ogb.rd.any) (fun v39 H39 r39 => ?_)
            obtain ⟨rfl, hs39⟩ := r39
            replace ha := ha.nw hs39
            replace hb := hb.nw hs39
            replace hx := fun x hx0 => (hx x hx0).nw hs39
            replace hy := fun x hy0 => (hy x hy0).nw hs39
            replace oga := oga.nw hs39
            replace gax := fun x hx_ => (gax x hx_).nw hs39
            replace ogb := ogb.nw hs39
            replace gbx := fun x hx_ => (gbx x hx_).nw hs39
            replace oc := oc.nw hs39
            replace od := od.nw hs39
            replace vx7 := vx7.nw hs39
            replace hm0 := hm0.tr hs39
            replace hlm1 := hlm1.tr hs39
            replace hcm14 := hcm14.tr hs39
            replace hq8 := hq8.trN hs39
            have hz37 := hs39.size
            refine ⟨.inr hq8, LH.narrow (SH2 := fun Hq => Mo (Ms [(HL1.size + 1)]) H39 Hq) (fun Hq hq => hq8.trL hq (MIL.cons (MI.app (MI.root (by simp)) (nx227) (Nat.le_refl _)) MIL.nil)) ?_⟩
            have hq8 : Mo (Ms [(HL1.size + 1)]) H39 H39 := Mo.refl _ _
            have nx228 := Nx.refl (HL1.size + 1) H39.size
            refine LH.one (i := 15) (by kernel_rfl) ?_
            refine LO.z rfl (Z.allocv rfl Try.zeroValue35) (Wd.u rfl) rfl rfl (fun v8 H8 r8 => ?_)
            obtain ⟨rfl, vy8, hs8, ob8, hH8⟩ := r8
            have hzs8 : H8.size = H39.size + 1 := by rw [hH8]; simp
            have df229 := (DF.new (bf_ha.mono hm0.size) : DF _ (H39.size + 1))
            have df230 := (DF.new (bf_hb.mono hm0.size) : DF _ (H39.size + 1))
            have df231 := (DF.new (bf_hx.mono hm0.size) : DF _ (H39.size + 1))
            have df232 := (DF.new (bf_hy.mono hm0.size) : DF _ (H39.size + 1))
            have dj233 : Dj koga (H39.size + 1) := Dj.new oga.le
            have df234 := (DF.new (bf_gax.mono (by omega)) : DF _ (H39.size + 1))
            have dj235 : Dj kogb (H39.size + 1) := Dj.new ogb.le
            have df236 := (DF.new (bf_gbx.mono (by omega)) : DF _ (H39.size + 1))
            have dj237 : Dj kc (H39.size + 1) := Dj.new oc.le
            have dj238 : Dj kd (H39.size + 1) := Dj.new od.le
            have dj239 : Dj (HL1.size + 1) (H39.size + 1) := Dj.new vx7.lt
            have nx240 : Nx 0 H0.size (H39.size + 1) := Nx.new hm0.size
            have nx241 : Nx 0 H19.size (H39.size + 1) := Nx.new hlm1.size
            have nx242 : Nx 0 HL1.size (H39.size + 1) := Nx.new hcm14.size
            have nx243 : Nx 0 H39.size (H39.size + 1) := Nx.new hq8.size
            replace ha := ha.nw hs8
            replace hb := hb.nw hs8
            replace hx := fun x hx0 => (hx x hx0).nw hs8
            replace hy := fun x hy0 => (hy x hy0).nw hs8
            replace oga := oga.nw hs8
            replace gax := fun x hx_ => (gax x hx_).nw hs8
            replace ogb := ogb.nw hs8
            replace gbx := fun x hx_ => (gbx x hx_).nw hs8
            replace oc := oc.nw hs8
            replace od := od.nw hs8
            replace vx7 := vx7.nw hs8
            replace hm0 := hm0.tr hs8
            replace hlm1 := hlm1.tr hs8
            replace hcm14 := hcm14.tr hs8
            replace hq8 := hq8.trN hs8
            have hz38 := hs8.size
            refine ⟨.inr hq8, LH.narrow (SH2 := fun Hq => Mo (Ms [(HL1.size + 1), (H39.size + 1)]) H8 Hq) (fun Hq hq => hq8.trL hq (MIL.cons (MI.app (MI.root (by simp)) (nx228) (Nat.le_refl _)) (MIL.cons (MI.app MI.z (nx243) (Nat.le_refl _)) MIL.nil))) ?_⟩
            have hq8 : Mo (Ms [(HL1.size + 1), (H39.size + 1)]) H8 H8 := Mo.refl _ _
            have nx244 := Nx.refl (HL1.size + 1) H8.size
            have nx245 := Nx.refl (H39.size + 1) H8.size
            refine LH.one (i := 16) (by kernel_rfl) ?_
            refine LO.s rfl (S.var vx7 (_) (fFl (findF ga out[i].o)) rfl rfl rfl rfl (fFl_one (findF ga out[i].o)) Try.sizeOf35 (rfl) (Nat.le_of_ble_eq_true rfl) (rfl)) (Wd.u rfl) rfl (fun H8_16 r8_16 => ?_)
            obtain ⟨vx7, hs8_16⟩ := r8_16
            replace hs8_16 := hs8_16.md1
            replace ha := ha.upL hs8_16 (DFL.cons df212 DFL.nil)
            replace hb := hb.upL hs8_16 (DFL.cons df213 DFL.nil)
            replace hx := fun x hx0 => (hx x hx0).upL hs8_16 (DFL.cons df214 DFL.nil)
            replace hy := fun x hy0 => (hy x hy0).upL hs8_16 (DFL.cons df215 DFL.nil)
            replace oga := oga.upL hs8_16 (DL.cons dj216 DL.nil)
            replace gax := fun x hx_ => (gax x hx_).upL hs8_16 (DFL.cons df217 DFL.nil)
            replace ogb := ogb.upL hs8_16 (DL.cons dj218 DL.nil)
            replace gbx := fun x hx_ => (gbx x hx_).upL hs8_16 (DFL.cons df219 DFL.nil)
            replace oc := oc.upL hs8_16 (DL.cons dj220 DL.nil)
            replace od := od.upL hs8_16 (DL.cons dj221 DL.nil)
            replace vy8 := vy8.upL hs8_16 (DL.cons dj239.symm DL.nil)
            replace hm0 := (Mo.trL (ks := []) (hm0.mdn []) hs8_16 (MIL.cons (MI.app MI.z (nx222) (Nat.le_refl _)) MIL.nil)).nil
            replace hlm1 := (Mo.trL (ks := []) (hlm1.mdn []) hs8_16 (MIL.cons (MI.app MI.z (nx223) (Nat.le_refl _)) MIL.nil)).nil
            replace hcm14 := (Mo.trL (ks := []) (hcm14.mdn []) hs8_16 (MIL.cons (MI.app MI.z (nx224) (Nat.le_refl _)) MIL.nil)).nil
            replace hq8 := hq8.trL hs8_16 (MIL.cons (MI.app (MI.root (by simp)) (nx244) (Nat.le_refl _)) MIL.nil)
            have hz39 := hs8_16.size
            refine ⟨.inr hq8, LH.narrow (SH2 := fun Hq => Mo (Ms [(HL1.size + 1), (H39.size + 1)]) H8_16 Hq) (fun Hq hq => hq8.trL hq (MIL.cons (MI.app (MI.root (by simp)) (nx244) (Nat.le_refl _)) (MIL.cons (MI.app (MI.root (by simp)) (nx245) (Nat.le_refl _)) MIL.nil))) ?_⟩
            have hq8 : Mo (Ms [(HL1.size + 1), (H39.size + 1)]) H8_16 H8_16 := Mo.refl _ _
            have nx246 := Nx.refl (HL1.size + 1) H8_16.size
            have nx247 := Nx.refl (H39.size + 1) H8_16.size
            refine LH.one (i := 17) (by kernel_rfl) ?_
            refine LO.s rfl (S.var vy8 (_) (fFl (findF gb out[i].n)) rfl rfl rfl rfl (fFl_one (findF gb out[i].n)) Try.sizeOf35 (rfl) (Nat.le_of_ble_eq_true rfl) (rfl)) (Wd.u rfl) rfl (fun H8_17 r8_17 => ?_)
            obtain ⟨vy8, hs8_17⟩ := r8_17
            replace hs8_17 := hs8_17.md1
            replace ha := ha.upL hs8_17 (DFL.cons df229 DFL.nil)
            replace hb := hb.upL hs8_17 (DFL.cons df230 DFL.nil)
            replace hx := fun x hx0 => (hx x hx0).upL hs8_17 (DFL.cons df231 DFL.nil)
            replace hy := fun x hy0 => (hy x hy0).upL hs8_17 (DFL.cons df232 DFL.nil)
            replace oga := oga.upL hs8_17 (DL.cons dj233 DL.nil)
            replace gax := fun x hx_ => (gax x hx_).upL hs8_17 (DFL.cons df234 DFL.nil)
            replace ogb := ogb.upL hs8_17 (DL.cons dj235 DL.nil)
            replace gbx := fun x hx_ => (gbx x hx_).upL hs8_17 (DFL.cons df236 DFL.nil)
            replace oc := oc.upL hs8_17 (DL.cons dj237 DL.nil)
            replace od := od.upL hs8_17 (DL.cons dj238 DL.nil)
            replace vx7 := vx7.upL hs8_17 (DL.cons dj239 DL.nil)
            replace hm0 := (Mo.trL (ks := []) (hm0.mdn []) hs8_17 (MIL.cons (MI.app MI.z (nx240) (Nat.le_refl _)) MIL.nil)).nil
            replace hlm1 := (Mo.trL (ks := []) (hlm1.mdn []) hs8_17 (MIL.cons (MI.app MI.z (nx241) (Nat.le_refl _)) MIL.nil)).nil
            replace hcm14 := (Mo.trL (ks := []) (hcm14.mdn []) hs8_17 (MIL.cons (MI.app MI.z (nx242) (Nat.le_refl _)) MIL.nil)).nil
            replace hq8 := hq8.trL hs8_17 (MIL.cons (MI.app (MI.root (by simp)) (nx247) (Nat.le_refl _)) MIL.nil)
            have hz40 := hs8_17.size
            refine ⟨.inl rfl, ?_⟩
            refine LH.done (by kernel_rfl) ?_
            refine QN.sub (hK14 ((HL1.size + 1) - 1, (H39.size + 1) - 1) _ ?_) ⟨rfl, rfl, rfl, (iv (by omega)), rfl, rfl, trivial⟩
            exact ⟨⟨vx7, vy8⟩, hcm14⟩
          ·
            refine LO.z rfl (Z.allocv rfl Try.zeroValue35) (Wd.u rfl) rfl rfl (fun v8 H8 r8 => ?_)
            obtain ⟨rfl, vy8, hs8, ob8, hH8⟩ := r8
            have hzs8 : H8.size = H32.size + 1 := by rw [hH8]; simp
            have df248 := (DF.new (bf_ha.mono hm0.size) : DF _ (H32.size + 1))
            have df249 := (DF.new (bf_hb.mono hm0.size) : DF _ (H32.size + 1))
            have df250 := (DF.new (bf_hx.mono hm0.size) : DF _ (H32.size + 1))
            have df251 := (DF.new (bf_hy.mono hm0.size) : DF _ (H32.size + 1))
            have dj252 : Dj koga (H32.size + 1) := Dj.new oga.le
            have df253 := (DF.new (bf_gax.mono (by omega)) : DF _ (H32.size + 1))
            have dj254 : Dj kogb (H32.size + 1) := Dj.new ogb.le
            have df255 := (DF.new (bf_gbx.mono (by omega)) : DF _ (H32.size + 1))
            have dj256 : Dj kc (H32.size + 1) := Dj.new oc.le
            have dj257 : Dj kd (H32.size + 1) := Dj.new od.le
            have dj258 : Dj (HL1.size + 1) (H32.size + 1) := Dj.new vx7.lt
            have nx259 : Nx 0 H0.size (H32.size + 1) := Nx.new hm0.size
            have nx260 : Nx 0 H19.size (H32.size + 1) := Nx.new hlm1.size
            have nx261 : Nx 0 HL1.size (H32.size + 1) := Nx.new hcm14.size
            have nx262 : Nx 0 H32.size (H32.size + 1) := Nx.new hq8.size
            replace ha := ha.nw hs8
            replace hb := hb.nw hs8
            replace hx := fun x hx0 => (hx x hx0).nw hs8
            replace hy := fun x hy0 => (hy x hy0).nw hs8
            replace oga := oga.nw hs8
            replace gax := fun x hx_ => (gax x hx_).nw hs8
            replace ogb := ogb.nw hs8
            replace gbx := fun x hx_ => (gbx x hx_).nw hs8
            replace oc := oc.nw hs8
            replace od := od.nw hs8
            replace vx7 := vx7.nw hs8
            replace hm0 := hm0.tr hs8
            replace hlm1 := hlm1.tr hs8
            replace hcm14 := hcm14.tr hs8
            replace hq8 := hq8.trN hs8
            have hz41 := hs8.size
            refine ⟨.inr hq8, LH.narrow (SH2 := fun Hq => Mo (Ms [(HL1.size + 1), (H32.size + 1)]) H8 Hq) (fun Hq hq => hq8.trL hq (MIL.cons (MI.app (MI.root (by simp)) (nx227) (Nat.le_refl _)) (MIL.cons (MI.app MI.z (nx262) (Nat.le_refl _)) MIL.nil))) ?_⟩
            have hq8 : Mo (Ms [(HL1.size + 1), (H32.size + 1)]) H8 H8 := Mo.refl _ _
            have nx263 := Nx.refl (HL1.size + 1) H8.size
            have nx264 := Nx.refl (H32.size + 1) H8.size
            refine LH.one (i := 13) (by kernel_rfl) ?_
            -- call selvage/selvageref15.Find
            refine LO.call rfl rfl Try.call19 rfl (Wd.u rfl) rfl rfl (find_ct v15 gb out[i].n w0 _ ogb.rd.any) (fun v39 H39 r39 => ?_)
            obtain ⟨rfl, hs39⟩ := r39
            replace ha := ha.nw hs39
            replace hb := hb.nw hs39
            replace hx := fun x hx0 => (hx x hx0).nw hs39
            replace hy := fun x hy0 => (hy x hy0).nw hs39
            replace oga := oga.nw hs39
            replace gax := fun x hx_ => (gax x hx_).nw hs39
            replace ogb := ogb.nw hs39
            replace gbx := fun x hx_ => (gbx x hx_).nw hs39
            replace oc := oc.nw hs39
            replace od := od.nw hs39
            replace vx7 := vx7.nw hs39
            replace vy8 := vy8.nw hs39
            replace hm0 := hm0.tr hs39
            replace hlm1 := hlm1.tr hs39
            replace hcm14 := hcm14.tr hs39
            replace hq8 := hq8.trN hs39
            have hz42 := hs39.size
            refine ⟨.inr hq8, LH.narrow (SH2 := fun Hq => Mo (Ms [(HL1.size + 1), (H32.size + 1)]) H39 Hq) (fun Hq hq => hq8.trL hq (MIL.cons (MI.app (MI.root (by simp)) (nx263) (Nat.le_refl _)) (MIL.cons (MI.app (MI.root (by simp)) (nx264) (Nat.le_refl _)) MIL.nil))) ?_⟩
            have hq8 : Mo (Ms [(HL1.size + 1), (H32.size + 1)]) H39 H39 := Mo.refl _ _
            have nx265 := Nx.refl (HL1.size + 1) H39.size
            have nx266 := Nx.refl (H32.size + 1) H39.size
            refine LH.one (i := 16) (by kernel_rfl) ?_
            refine LO.s rfl (S.var vx7 (_) (fFl (findF ga out[i].o)) rfl rfl rfl rfl (fFl_one (findF ga out[i].o)) Try.sizeOf35 (rfl) (Nat.le_of_ble_eq_true rfl) (rfl)) (Wd.u rfl) rfl (fun H8_16 r8_16 => ?_)
            obtain ⟨vx7, hs8_16⟩ := r8_16
            replace hs8_16 := hs8_16.md1
            replace ha := ha.upL hs8_16 (DFL.cons df212 DFL.nil)
            replace hb := hb.upL hs8_16 (DFL.cons df213 DFL.nil)
            replace hx := fun x hx0 => (hx x hx0).upL hs8_16 (DFL.cons df214 DFL.nil)
            replace hy := fun x hy0 => (hy x hy0).upL hs8_16 (DFL.cons df215 DFL.nil)
            replace oga := oga.upL hs8_16 (DL.cons dj216 DL.nil)
            replace gax := fun x hx_ => (gax x hx_).upL hs8_16 (DFL.cons df217 DFL.nil)
            replace ogb := ogb.upL hs8_16 (DL.cons dj218 DL.nil)
            replace gbx := fun x hx_ => (gbx x hx_).upL hs8_16 (DFL.cons df219 DFL.nil)
            replace oc := oc.upL hs8_16 (DL.cons dj220 DL.nil)
            replace od := od.upL hs8_16 (DL.cons dj221 DL.nil)
            replace vy8 := vy8.upL hs8_16 (DL.cons dj258.symm DL.nil)
            replace hm0 := (Mo.trL (ks := []) (hm0.mdn []) hs8_16 (MIL.cons (MI.app MI.z (nx222) (Nat.le_refl _)) MIL.nil)).nil
            replace hlm1 := (Mo.trL (ks := []) (hlm1.mdn []) hs8_16 (MIL.cons (MI.app MI.z (nx223) (Nat.le_refl _)) MIL.nil)).nil
            replace hcm14 := (Mo.trL (ks := []) (hcm14.mdn []) hs8_16 (MIL.cons (MI.app MI.z (nx224) (Nat.le_refl _)) MIL.nil)).nil
            replace hq8 := hq8.trL hs8_16 (MIL.cons (MI.app (MI.root (by simp)) (nx265) (Nat.le_refl _)) MIL.nil)
            have hz43 := hs8_16.size
            refine ⟨.inr hq8, LH.narrow (SH2 := fun Hq => Mo (Ms [(HL1.size + 1), (H32.size + 1)]) H8_16 Hq) (fun Hq hq => hq8.trL hq (MIL.cons (MI.app (MI.root (by simp)) (nx265) (Nat.le_refl _)) (MIL.cons (MI.app (MI.root (by simp)) (nx266) (Nat.le_refl _)) MIL.nil))) ?_⟩
            have hq8 : Mo (Ms [(HL1.size + 1), (H32.size + 1)]) H8_16 H8_16 := Mo.refl _ _
            have nx267 := Nx.refl (HL1.size + 1) H8_16.size
            have nx268 := Nx.refl (H32.size + 1) H8_16.size
            refine LH.one (i := 17) (by kernel_rfl) ?_
            refine LO.s rfl (S.var vy8 (_) (fFl (findF gb out[i].n)) rfl rfl rfl rfl (fFl_one (findF gb out[i].n)) Try.sizeOf35 (rfl) (Nat.le_of_ble_eq_true rfl) (rfl)) (Wd.u rfl) rfl (fun H8_17 r8_17 => ?_)
            obtain ⟨vy8, hs8_17⟩ := r8_17
            replace hs8_17 := hs8_17.md1
            replace ha := ha.upL hs8_17 (DFL.cons df248 DFL.nil)
            replace hb := hb.upL hs8_17 (DFL.cons df249 DFL.nil)
            replace hx := fun x hx0 => (hx x hx0).upL hs8_17 (DFL.cons df250 DFL.nil)
            replace hy := fun x hy0 => (hy x hy0).upL hs8_17 (DFL.cons df251 DFL.nil)
            replace oga := oga.upL hs8_17 (DL.cons dj252 DL.nil)
            replace gax := fun x hx_ => (gax x hx_).upL hs8_17 (DFL.cons df253 DFL.nil)
            replace ogb := ogb.upL hs8_17 (DL.cons dj254 DL.nil)
            replace gbx := fun x hx_ => (gbx x hx_).upL hs8_17 (DFL.cons df255 DFL.nil)
            replace oc := oc.upL hs8_17 (DL.cons dj256 DL.nil)
            replace od := od.upL hs8_17 (DL.cons dj257 DL.nil)
            replace vx7 := vx7.upL hs8_17 (DL.cons dj258 DL.nil)
            replace hm0 := (Mo.trL (ks := []) (hm0.mdn []) hs8_17 (MIL.cons (MI.app MI.z (nx259) (Nat.le_refl _)) MIL.nil)).nil
            replace hlm1 := (Mo.trL (ks := []) (hlm1.mdn []) hs8_17 (MIL.cons (MI.app MI.z (nx260) (Nat.le_refl _)) MIL.nil)).nil
            replace hcm14 := (Mo.trL (ks := []) (hcm14.mdn []) hs8_17 (MIL.cons (MI.app MI.z (nx261) (Nat.le_refl _)) MIL.nil)).nil
            replace hq8 := hq8.trL hs8_17 (MIL.cons (MI.app (MI.root (by simp)) (nx268) (Nat.le_refl _)) MIL.nil)
            have hz44 := hs8_17.size
            refine ⟨.inl rfl, ?_⟩
            refine LH.done (by kernel_rfl) ?_
            refine QN.sub (hK14 ((HL1.size + 1) - 1, (H32.size + 1) - 1) _ ?_) ⟨rfl, rfl, rfl, (iv (by omega)), rfl, rfl, trivial⟩
            exact ⟨⟨vx7, vy8⟩, hcm14⟩
        ·
          refine LO.z rfl (Z.allocv rfl Try.zeroValue35) (Wd.u rfl) rfl rfl (fun v8 H8 r8 => ?_)
          obtain ⟨rfl, vy8, hs8, ob8, hH8⟩ := r8
          have hzs8 : H8.size = H7.size + 1 := by rw [hH8]; simp
          have df269 := (DF.new (bf_ha.mono hm0.size) : DF _ (H7.size + 1))
          have df270 := (DF.new (bf_hb.mono hm0.size) : DF _ (H7.size + 1))
          have df271 := (DF.new (bf_hx.mono hm0.size) : DF _ (H7.size + 1))
          have df272 := (DF.new (bf_hy.mono hm0.size) : DF _ (H7.size + 1))
          have dj273 : Dj koga (H7.size + 1) := Dj.new oga.le
          have df274 := (DF.new (bf_gax.mono (by omega)) : DF _ (H7.size + 1))
          have dj275 : Dj kogb (H7.size + 1) := Dj.new ogb.le
          have df276 := (DF.new (bf_gbx.mono (by omega)) : DF _ (H7.size + 1))
          have dj277 : Dj kc (H7.size + 1) := Dj.new oc.le
          have dj278 : Dj kd (H7.size + 1) := Dj.new od.le
          have dj279 : Dj (HL1.size + 1) (H7.size + 1) := Dj.new vx7.lt
          have nx280 : Nx 0 H0.size (H7.size + 1) := Nx.new hm0.size
          have nx281 : Nx 0 H19.size (H7.size + 1) := Nx.new hlm1.size
          have nx282 : Nx 0 HL1.size (H7.size + 1) := Nx.new hcm14.size
          have nx283 : Nx 0 H7.size (H7.size + 1) := Nx.new hq8.size
          replace ha := ha.nw hs8
          replace hb := hb.nw hs8
          replace hx := fun x hx0 => (hx x hx0).nw hs8
          replace hy := fun x hy0 => (hy x hy0).nw hs8
          replace oga := oga.nw hs8
          replace gax := fun x hx_ => (gax x hx_).nw hs8
          replace ogb := ogb.nw hs8
          replace gbx := fun x hx_ => (gbx x hx_).nw hs8
          replace oc := oc.nw hs8
          replace od := od.nw hs8
          replace vx7 := vx7.nw hs8
          replace hm0 := hm0.tr hs8
          replace hlm1 := hlm1.tr hs8
          replace hcm14 := hcm14.tr hs8
          replace hq8 := hq8.trN hs8
          have hz45 := hs8.size
          refine ⟨.inr hq8, LH.narrow (SH2 := fun Hq => Mo (Ms [(HL1.size + 1), (H7.size + 1)]) H8 Hq) (fun Hq hq => hq8.trL hq (MIL.cons (MI.app (MI.root (by simp)) (nx226) (Nat.le_refl _)) (MIL.cons (MI.app MI.z (nx283) (Nat.le_refl _)) MIL.nil))) ?_⟩
          have hq8 : Mo (Ms [(HL1.size + 1), (H7.size + 1)]) H8 H8 := Mo.refl _ _
          have nx284 := Nx.refl (HL1.size + 1) H8.size
          have nx285 := Nx.refl (H7.size + 1) H8.size
          refine LH.one (i := 6) (by kernel_rfl) ?_
          -- call selvage/selvageref15.Find
          refine LO.call rfl rfl Try.call19 rfl (Wd.u rfl) rfl rfl (find_ct v13 ga out[i].o w0 _ oga.rd.any) (fun v32 H32 r32 => ?_)
          obtain ⟨rfl, hs32⟩ := r32
          replace ha := ha.nw hs32
          replace hb := hb.nw hs32
          replace hx := fun x hx0 => (hx x hx0).nw hs32
          replace hy := fun x hy0 => (hy x hy0).nw hs32
          replace oga := oga.nw hs32
          replace gax := fun x hx_ => (gax x hx_).nw hs32
          replace ogb := ogb.nw hs32
          replace gbx := fun x hx_ => (gbx x hx_).nw hs32
          replace oc := oc.nw hs32
          replace od := od.nw hs32
          replace vx7 := vx7.nw hs32
          replace vy8 := vy8.nw hs32
          replace hm0 := hm0.tr hs32
          replace hlm1 := hlm1.tr hs32
          replace hcm14 := hcm14.tr hs32
          replace hq8 := hq8.trN hs32
          have hz46 := hs32.size
          refine ⟨.inr hq8, LH.narrow (SH2 := fun Hq => Mo (Ms [(HL1.size + 1), (H7.size + 1)]) H32 Hq) (fun Hq hq => hq8.trL hq (MIL.cons (MI.app (MI.root (by simp)) (nx284) (Nat.le_refl _)) (MIL.cons (MI.app (MI.root (by simp)) (nx285) (Nat.le_refl _)) MIL.nil))) ?_⟩
          have hq8 : Mo (Ms [(HL1.size + 1), (H7.size + 1)]) H32 H32 := Mo.refl _ _
          have nx286 := Nx.refl (HL1.size + 1) H32.size
          have nx287 := Nx.refl (H7.size + 1) H32.size
          refine LH.one (i := 13) (by kernel_rfl) ?_
          -- call selvage/selvageref15.Find
          refine LO.call rfl rfl Try.call19 rfl (Wd.u rfl) rfl rfl (find_ct v15 gb out[i].n w0 _ ogb.rd.any) (fun v39 H39 r39 => ?_)
          obtain ⟨rfl, hs39⟩ := r39
          replace ha := ha.nw hs39
          replace hb := hb.nw hs39
          replace hx := fun x hx0 => (hx x hx0).nw hs39
          replace hy := fun x hy0 => (hy x hy0).nw hs39
          replace oga := oga.nw hs39
          replace gax := fun x hx_ => (gax x hx_).nw hs39
          replace ogb := ogb.nw hs39
          replace gbx := fun x hx_ => (gbx x hx_).nw hs39
          replace oc := oc.nw hs39
          replace od := od.nw hs39
          replace vx7 := vx7.nw hs39
          replace vy8 := vy8.nw hs39
          replace hm0 := hm0.tr hs39
          replace hlm1 := hlm1.tr hs39
          replace hcm14 := hcm14.tr hs39
          replace hq8 := hq8.trN hs39
          have hz47 := hs39.size
          refine ⟨.inr hq8, LH.narrow (SH2 := fun Hq => Mo (Ms [(HL1.size + 1), (H7.size + 1)]) H39 Hq) (fun Hq hq => hq8.trL hq (MIL.cons (MI.app (MI.root (by simp)) (nx286) (Nat.le_refl _)) (MIL.cons (MI.app (MI.root (by simp)) (nx287) (Nat.le_refl _)) MIL.nil))) ?_⟩
          have hq8 : Mo (Ms [(HL1.size + 1), (H7.size + 1)]) H39 H39 := Mo.refl _ _
          have nx288 := Nx.refl (HL1.size + 1) H39.size
          have nx289 := Nx.refl (H7.size + 1) H39.size
          refine LH.one (i := 16) (by kernel_rfl) ?_
          refine LO.s rfl (S.var vx7 (_) (fFl (findF ga out[i].o)) rfl rfl rfl rfl (fFl_one (findF ga out[i].o)) Try.sizeOf35 (rfl) (Nat.le_of_ble_eq_true rfl) (rfl)) (Wd.u rfl) rfl (fun H8_16 r8_16 => ?_)
          obtain ⟨vx7, hs8_16⟩ := r8_16
          replace hs8_16 := hs8_16.md1
          replace ha := ha.upL hs8_16 (DFL.cons df212 DFL.nil)
          replace hb := hb.upL hs8_16 (DFL.cons df213 DFL.nil)
          replace hx := fun x hx0 => (hx x hx0).upL hs8_16 (DFL.cons df214 DFL.nil)
          replace hy := fun x hy0 => (hy x hy0).upL hs8_16 (DFL.cons df215 DFL.nil)
          replace oga := oga.upL hs8_16 (DL.cons dj216 DL.nil)
          replace gax := fun x hx_ => (gax x hx_).upL hs8_16 (DFL.cons df217 DFL.nil)
          replace ogb := ogb.upL hs8_16 (DL.cons dj218 DL.nil)
          replace gbx := fun x hx_ => (gbx x hx_).upL hs8_16 (DFL.cons df219 DFL.nil)
          replace oc := oc.upL hs8_16 (DL.cons dj220 DL.nil)
          replace od := od.upL hs8_16 (DL.cons dj221 DL.nil)
          replace vy8 := vy8.upL hs8_16 (DL.cons dj279.symm DL.nil)
          replace hm0 := (Mo.trL (ks := []) (hm0.mdn []) hs8_16 (MIL.cons (MI.app MI.z (nx222) (Nat.le_refl _)) MIL.nil)).nil
          replace hlm1 := (Mo.trL (ks := []) (hlm1.mdn []) hs8_16 (MIL.cons (MI.app MI.z (nx223) (Nat.le_refl _)) MIL.nil)).nil
          replace hcm14 := (Mo.trL (ks := []) (hcm14.mdn []) hs8_16 (MIL.cons (MI.app MI.z (nx224) (Nat.le_refl _)) MIL.nil)).nil
          replace hq8 := hq8.trL hs8_16 (MIL.cons (MI.app (MI.root (by simp)) (nx288) (Nat.le_refl _)) MIL.nil)
          have hz48 := hs8_16.size
          refine ⟨.inr hq8, LH.narrow (SH2 := fun Hq => Mo (Ms [(HL1.size + 1), (H7.size + 1)]) H8_16 Hq) (fun Hq hq => hq8.trL hq (MIL.cons (MI.app (MI.root (by simp)) (nx288) (Nat.le_refl _)) (MIL.cons (MI.app (MI.root (by simp)) (nx289) (Nat.le_refl _)) MIL.nil))) ?_⟩
          have hq8 : Mo (Ms [(HL1.size + 1), (H7.size + 1)]) H8_16 H8_16 := Mo.refl _ _
          have nx290 := Nx.refl (HL1.size + 1) H8_16.size
          have nx291 := Nx.refl (H7.size + 1) H8_16.size
          refine LH.one (i := 17) (by kernel_rfl) ?_
          refine LO.s rfl (S.var vy8 (_) (fFl (findF gb out[i].n)) rfl rfl rfl rfl (fFl_one (findF gb out[i].n)) Try.sizeOf35 (rfl) (Nat.le_of_ble_eq_true rfl) (rfl)) (Wd.u rfl) rfl (fun H8_17 r8_17 => ?_)
          obtain ⟨vy8, hs8_17⟩ := r8_17
          replace hs8_17 := hs8_17.md1
          replace ha := ha.upL hs8_17 (DFL.cons df269 DFL.nil)
          replace hb := hb.upL hs8_17 (DFL.cons df270 DFL.nil)
          replace hx := fun x hx0 => (hx x hx0).upL hs8_17 (DFL.cons df271 DFL.nil)
          replace hy := fun x hy0 => (hy x hy0).upL hs8_17 (DFL.cons df272 DFL.nil)
          replace oga := oga.upL hs8_17 (DL.cons dj273 DL.nil)
          replace gax := fun x hx_ => (gax x hx_).upL hs8_17 (DFL.cons df274 DFL.nil)
          replace ogb := ogb.upL hs8_17 (DL.cons dj275 DL.nil)
          replace gbx := fun x hx_ => (gbx x hx_).upL hs8_17 (DFL.cons df276 DFL.nil)
          replace oc := oc.upL hs8_17 (DL.cons dj277 DL.nil)
          replace od := od.upL hs8_17 (DL.cons dj278 DL.nil)
          replace vx7 := vx7.upL hs8_17 (DL.cons dj279 DL.nil)
          replace hm0 := (Mo.trL (ks := []) (hm0.mdn []) hs8_17 (MIL.cons (MI.app MI.z (nx280) (Nat.le_refl _)) MIL.nil)).nil
          replace hlm1 := (Mo.trL (ks := []) (hlm1.mdn []) hs8_17 (MIL.cons (MI.app MI.z (nx281) (Nat.le_refl _)) MIL.nil)).nil
          replace hcm14 := (Mo.trL (ks := []) (hcm14.mdn []) hs8_17 (MIL.cons (MI.app MI.z (nx282) (Nat.le_refl _)) MIL.nil)).nil
          replace hq8 := hq8.trL hs8_17 (MIL.cons (MI.app (MI.root (by simp)) (nx291) (Nat.le_refl _)) MIL.nil)
          have hz49 := hs8_17.size
          refine ⟨.inl rfl, ?_⟩
          refine LH.done (by kernel_rfl) ?_
          refine QN.sub (hK14 ((HL1.size + 1) - 1, (H7.size + 1) - 1) _ ?_) ⟨rfl, rfl, rfl, (iv (by omega)), rfl, rfl, trivial⟩
          exact ⟨⟨vx7, vy8⟩, hcm14⟩
      ·
        refine LO.z rfl (Z.allocv rfl Try.zeroValue35) (Wd.u rfl) rfl rfl (fun v8 H8 r8 => ?_)
        obtain ⟨rfl, vy8, hs8, ob8, hH8⟩ := r8
        have hzs8 : H8.size = HL1.size + 1 := by rw [hH8]; simp
        have df292 := (DF.new (bf_ha.mono hm0.size) : DF _ (HL1.size + 1))
        have df293 := (DF.new (bf_hb.mono hm0.size) : DF _ (HL1.size + 1))
        have df294 := (DF.new (bf_hx.mono hm0.size) : DF _ (HL1.size + 1))
        have df295 := (DF.new (bf_hy.mono hm0.size) : DF _ (HL1.size + 1))
        have dj296 : Dj koga (HL1.size + 1) := Dj.new oga.le
        have df297 := (DF.new (bf_gax.mono (by omega)) : DF _ (HL1.size + 1))
        have dj298 : Dj kogb (HL1.size + 1) := Dj.new ogb.le
        have df299 := (DF.new (bf_gbx.mono (by omega)) : DF _ (HL1.size + 1))
        have dj300 : Dj kc (HL1.size + 1) := Dj.new oc.le
        have dj301 : Dj kd (HL1.size + 1) := Dj.new od.le
        have nx302 : Nx 0 H0.size (HL1.size + 1) := Nx.new hm0.size
        have nx303 : Nx 0 H19.size (HL1.size + 1) := Nx.new hlm1.size
        have nx304 : Nx 0 HL1.size (HL1.size + 1) := Nx.new hcm14.size
        have nx305 : Nx 0 HL1.size (HL1.size + 1) := Nx.new hq8.size
        replace ha := ha.nw hs8
        replace hb := hb.nw hs8
        replace hx := fun x hx0 => (hx x hx0).nw hs8
        replace hy := fun x hy0 => (hy x hy0).nw hs8
        replace oga := oga.nw hs8
        replace gax := fun x hx_ => (gax x hx_).nw hs8
        replace ogb := ogb.nw hs8
        replace gbx := fun x hx_ => (gbx x hx_).nw hs8
        replace oc := oc.nw hs8
        replace od := od.nw hs8
        replace hm0 := hm0.tr hs8
        replace hlm1 := hlm1.tr hs8
        replace hcm14 := hcm14.tr hs8
        replace hq8 := hq8.tr hs8
        have hz50 := hs8.size
        refine ⟨.inr hq8, LH.narrow (SH2 := fun Hq => Mo (Ms [(HL1.size + 1)]) H8 Hq) (fun Hq hq => (Mo.trL (ks := []) (hq8.mdn []) hq (MIL.cons (MI.app MI.z (nx305) (Nat.le_refl _)) MIL.nil)).nil) ?_⟩
        have hq8 : Mo (Ms [(HL1.size + 1)]) H8 H8 := Mo.refl _ _
        have nx306 := Nx.refl (HL1.size + 1) H8.size
        refine LH.two (i := 6) (j := 14) (by kernel_rfl) ?_ ?_
        ·
          -- call selvage/selvageref15.Find
          refine LO.call rfl rfl Try.call19 rfl (Wd.u rfl) rfl rfl (find_ct v13 ga out[i].o w0 _ oga.rd.any) (fun v32 H32 r32 => ?_)
          obtain ⟨rfl, hs32⟩ := r32
          replace ha := ha.nw hs32
          replace hb := hb.nw hs32
          replace hx := fun x hx0 => (hx x hx0).nw hs32
          replace hy := fun x hy0 => (hy x hy0).nw hs32
          replace oga := oga.nw hs32
          replace gax := fun x hx_ => (gax x hx_).nw hs32
          replace ogb := ogb.nw hs32
          replace gbx := fun x hx_ => (gbx x hx_).nw hs32
          replace oc := oc.nw hs32
          replace od := od.nw hs32
          replace vy8 := vy8.nw hs32
          replace hm0 := hm0.tr hs32
          replace hlm1 := hlm1.tr hs32
          replace hcm14 := hcm14.tr hs32
          replace hq8 := hq8.trN hs32
          have hz51 := hs32.size
          refine ⟨.inr hq8, LH.narrow (SH2 := fun Hq => Mo (Ms [(HL1.size + 1)]) H32 Hq) (fun Hq hq => hq8.trL hq (MIL.cons (MI.app (MI.root (by simp)) (nx306) (Nat.le_refl _)) MIL.nil)) ?_⟩
          have hq8 : Mo (Ms [(HL1.size + 1)]) H32 H32 := Mo.refl _ _
          have nx307 := Nx.refl (HL1.size + 1) H32.size
          refine LH.two (i := 13) (j := 14) (by kernel_rfl) ?_ ?_
          ·
            -- call selvage/selvageref15.Find
            refine LO.call rfl rfl Try.call19 rfl (Wd.u rfl) rfl rfl (find_ct v15 gb out[i].n w0 _ ogb.rd.any) (fun v39 H39 r39 => ?_)
            obtain ⟨rfl, hs39⟩ := r39
            replace ha := ha.nw hs39
            replace hb := hb.nw hs39
            replace hx := fun x hx0 => (hx x hx0).nw hs39
            replace hy := fun x hy0 => (hy x hy0).nw hs39
            replace oga := oga.nw hs39
            replace gax := fun x hx_ => (gax x hx_).nw hs39
            replace ogb := ogb.nw hs39
            replace gbx := fun x hx_ => (gbx x hx_).nw hs39
            replace oc := oc.nw hs39
            replace od := od.nw hs39
            replace vy8 := vy8.nw hs39
            replace hm0 := hm0.tr hs39
            replace hlm1 := hlm1.tr hs39
            replace hcm14 := hcm14.tr hs39
            replace hq8 := hq8.trN hs39
            have hz52 := hs39.size
            refine ⟨.inr hq8, LH.narrow (SH2 := fun Hq => Mo (Ms [(HL1.size + 1)]) H39 Hq) (fun Hq hq => hq8.trL hq (MIL.cons (MI.app (MI.root (by simp)) (nx307) (Nat.le_refl _)) MIL.nil)) ?_⟩
            have hq8 : Mo (Ms [(HL1.size + 1)]) H39 H39 := Mo.refl _ _
            have nx308 := Nx.refl (HL1.size + 1) H39.size
            refine LH.one (i := 14) (by kernel_rfl) ?_
            refine LO.z rfl (Z.allocv rfl Try.zeroValue35) (Wd.u rfl) rfl rfl (fun v7 H7 r7 => ?_)
            obtain ⟨rfl, vx7, hs7, ob7, hH7⟩ := r7
            have hzs7 : H7.size = H39.size + 1 := by rw [hH7]; simp
            have df309 := (DF.new (bf_ha.mono hm0.size) : DF _ (H39.size + 1))
            have df310 := (DF.new (bf_hb.mono hm0.size) : DF _ (H39.size + 1))
            have df311 := (DF.new (bf_hx.mono hm0.size) : DF _ (H39.size + 1))
            have df312 := (DF.new (bf_hy.mono hm0.size) : DF _ (H39.size + 1))
            have dj313 : Dj koga (H39.size + 1) := Dj.new oga.le
            have df314 := (DF.new (bf_gax.mono (by omega)) : DF _ (H39.size + 1))
            have dj315 : Dj kogb (H39.size + 1) := Dj.new ogb.le
            have df316 := (DF.new (bf_gbx.mono (by omega)) : DF _ (H39.size + 1))
            have dj317 : Dj kc (H39.size + 1) := Dj.new oc.le
            have dj318 : Dj kd (H39.size + 1) := Dj.new od.le
            have dj319 : Dj (HL1.size + 1) (H39.size + 1) := Dj.new vy8.lt
            have nx320 : Nx 0 H0.size (H39.size + 1) := Nx.new hm0.size
            have nx321 : Nx 0 H19.size (H39.size + 1) := Nx.new hlm1.size
            have nx322 : Nx 0 HL1.size (H39.size + 1) := Nx.new hcm14.size
            have nx323 : Nx 0 H39.size (H39.size + 1) := Nx.new hq8.size
            replace ha := ha.nw hs7
            replace hb := hb.nw hs7
            replace hx := fun x hx0 => (hx x hx0).nw hs7
            replace hy := fun x hy0 => (hy x hy0).nw hs7
            replace oga := oga.nw hs7
            replace gax := fun x hx_ => (gax x hx_).nw hs7
            replace ogb := ogb.nw hs7
            replace gbx := fun x hx_ => (gbx x hx_).nw hs7
            replace oc := oc.nw hs7
            replace od := od.nw hs7
            replace vy8 := vy8.nw hs7
            replace hm0 := hm0.tr hs7
            replace hlm1 := hlm1.tr hs7
            replace hcm14 := hcm14.tr hs7
            replace hq8 := hq8.trN hs7
            have hz53 := hs7.size
            refine ⟨.inr hq8, LH.narrow (SH2 := fun Hq => Mo (Ms [(HL1.size + 1), (H39.size + 1)]) H7 Hq) (fun Hq hq => hq8.trL hq (MIL.cons (MI.app (MI.root (by simp)) (nx308) (Nat.le_refl _)) (MIL.cons (MI.app MI.z (nx323) (Nat.le_refl _)) MIL.nil))) ?_⟩
            have hq8 : Mo (Ms [(HL1.size + 1), (H39.size + 1)]) H7 H7 := Mo.refl _ _
            have nx324 := Nx.refl (HL1.size + 1) H7.size
            have nx325 := Nx.refl (H39.size + 1) H7.size
            refine LH.one (i := 16) (by kernel_rfl) ?_
            refine LO.s rfl (S.var vx7 (_) (fFl (findF ga out[i].o)) rfl rfl rfl rfl (fFl_one (findF ga out[i].o)) Try.sizeOf35 (rfl) (Nat.le_of_ble_eq_true rfl) (rfl)) (Wd.u rfl) rfl (fun H8_16 r8_16 => ?_)
            obtain ⟨vx7, hs8_16⟩ := r8_16
            replace hs8_16 := hs8_16.md1
            replace ha := ha.upL hs8_16 (DFL.cons df309 DFL.nil)
            replace hb := hb.upL hs8_16 (DFL.cons df310 DFL.nil)
            replace hx := fun x hx0 => (hx x hx0).upL hs8_16 (DFL.cons df311 DFL.nil)
            replace hy := fun x hy0 => (hy x hy0).upL hs8_16 (DFL.cons df312 DFL.nil)
            replace oga := oga.upL hs8_16 (DL.cons dj313 DL.nil)
            replace gax := fun x hx_ => (gax x hx_).upL hs8_16 (DFL.cons df314 DFL.nil)
            replace ogb := ogb.upL hs8_16 (DL.cons dj315 DL.nil)
            replace gbx := fun x hx_ => (gbx x hx_).upL hs8_16 (DFL.cons df316 DFL.nil)
            replace oc := oc.upL hs8_16 (DL.cons dj317 DL.nil)
            replace od := od.upL hs8_16 (DL.cons dj318 DL.nil)
            replace vy8 := vy8.upL hs8_16 (DL.cons dj319 DL.nil)
            replace hm0 := (Mo.trL (ks := []) (hm0.mdn []) hs8_16 (MIL.cons (MI.app MI.z (nx320) (Nat.le_refl _)) MIL.nil)).nil
            replace hlm1 := (Mo.trL (ks := []) (hlm1.mdn []) hs8_16 (MIL.cons (MI.app MI.z (nx321) (Nat.le_refl _)) MIL.nil)).nil
            replace hcm14 := (Mo.trL (ks := []) (hcm14.mdn []) hs8_16 (MIL.cons (MI.app MI.z (nx322) (Nat.le_refl _)) MIL.nil)).nil
            replace hq8 := hq8.trL hs8_16 (MIL.cons (MI.app (MI.root (by simp)) (nx325) (Nat.le_refl _)) MIL.nil)
            have hz54 := hs8_16.size
            refine ⟨.inr hq8, LH.narrow (SH2 := fun Hq => Mo (Ms [(HL1.size + 1), (H39.size + 1)]) H8_16 Hq) (fun Hq hq => hq8.trL hq (MIL.cons (MI.app (MI.root (by simp)) (nx324) (Nat.le_refl _)) (MIL.cons (MI.app (MI.root (by simp)) (nx325) (Nat.le_refl _)) MIL.nil))) ?_⟩
            have hq8 : Mo (Ms [(HL1.size + 1), (H39.size + 1)]) H8_16 H8_16 := Mo.refl _ _
            have nx326 := Nx.refl (HL1.size + 1) H8_16.size
            have nx327 := Nx.refl (H39.size + 1) H8_16.size
            refine LH.one (i := 17) (by kernel_rfl) ?_
            refine LO.s rfl (S.var vy8 (_) (fFl (findF gb out[i].n)) rfl rfl rfl rfl (fFl_one (findF gb out[i].n)) Try.sizeOf35 (rfl) (Nat.le_of_ble_eq_true rfl) (rfl)) (Wd.u rfl) rfl (fun H8_17 r8_17 => ?_)
            obtain ⟨vy8, hs8_17⟩ := r8_17
            replace hs8_17 := hs8_17.md1
            replace ha := ha.upL hs8_17 (DFL.cons df292 DFL.nil)
            replace hb := hb.upL hs8_17 (DFL.cons df293 DFL.nil)
            replace hx := fun x hx0 => (hx x hx0).upL hs8_17 (DFL.cons df294 DFL.nil)
            replace hy := fun x hy0 => (hy x hy0).upL hs8_17 (DFL.cons df295 DFL.nil)
            replace oga := oga.upL hs8_17 (DL.cons dj296 DL.nil)
            replace gax := fun x hx_ => (gax x hx_).upL hs8_17 (DFL.cons df297 DFL.nil)
            replace ogb := ogb.upL hs8_17 (DL.cons dj298 DL.nil)
            replace gbx := fun x hx_ => (gbx x hx_).upL hs8_17 (DFL.cons df299 DFL.nil)
            replace oc := oc.upL hs8_17 (DL.cons dj300 DL.nil)
            replace od := od.upL hs8_17 (DL.cons dj301 DL.nil)
            replace vx7 := vx7.upL hs8_17 (DL.cons dj319.symm DL.nil)
            replace hm0 := (Mo.trL (ks := []) (hm0.mdn []) hs8_17 (MIL.cons (MI.app MI.z (nx302) (Nat.le_refl _)) MIL.nil)).nil
            replace hlm1 := (Mo.trL (ks := []) (hlm1.mdn []) hs8_17 (MIL.cons (MI.app MI.z (nx303) (Nat.le_refl _)) MIL.nil)).nil
            replace hcm14 := (Mo.trL (ks := []) (hcm14.mdn []) hs8_17 (MIL.cons (MI.app MI.z (nx304) (Nat.le_refl _)) MIL.nil)).nil
            replace hq8 := hq8.trL hs8_17 (MIL.cons (MI.app (MI.root (by simp)) (nx326) (Nat.le_refl _)) MIL.nil)
            have hz55 := hs8_17.size
            refine ⟨.inl rfl, ?_⟩
            refine LH.done (by kernel_rfl) ?_
            refine QN.sub (hK14 ((H39.size + 1) - 1, (HL1.size + 1) - 1) _ ?_) ⟨rfl, rfl, rfl, (iv (by omega)), rfl, rfl, trivial⟩
            exact ⟨⟨vx7, vy8⟩, hcm14⟩
          ·
            refine LO.z rfl (Z.allocv rfl Try.zeroValue35) (Wd.u rfl) rfl rfl (fun v7 H7 r7 => ?_)
            obtain ⟨rfl, vx7, hs7, ob7, hH7⟩ := r7
            have hzs7 : H7.size = H32.size + 1 := by rw [hH7]; simp
            have df328 := (DF.new (bf_ha.mono hm0.size) : DF _ (H32.size + 1))
            have df329 := (DF.new (bf_hb.mono hm0.size) : DF _ (H32.size + 1))
            have df330 := (DF.new (bf_hx.mono hm0.size) : DF _ (H32.size + 1))
            have df331 := (DF.new (bf_hy.mono hm0.size) : DF _ (H32.size + 1))
            have dj332 : Dj koga (H32.size + 1) := Dj.new oga.le
            have df333 := (DF.new (bf_gax.mono (by omega)) : DF _ (H32.size + 1))
            have dj334 : Dj kogb (H32.size + 1) := Dj.new ogb.le
            have df335 := (DF.new (bf_gbx.mono (by omega)) : DF _ (H32.size + 1))
            have dj336 : Dj kc (H32.size + 1) := Dj.new oc.le
            have dj337 : Dj kd (H32.size + 1) := Dj.new od.le
            have dj338 : Dj (HL1.size + 1) (H32.size + 1) := Dj.new vy8.lt
            have nx339 : Nx 0 H0.size (H32.size + 1) := Nx.new hm0.size
            have nx340 : Nx 0 H19.size (H32.size + 1) := Nx.new hlm1.size
            have nx341 : Nx 0 HL1.size (H32.size + 1) := Nx.new hcm14.size
            have nx342 : Nx 0 H32.size (H32.size + 1) := Nx.new hq8.size
            replace ha := ha.nw hs7
            replace hb := hb.nw hs7
            replace hx := fun x hx0 => (hx x hx0).nw hs7
            replace hy := fun x hy0 => (hy x hy0).nw hs7
            replace oga := oga.nw hs7
            replace gax := fun x hx_ => (gax x hx_).nw hs7
            replace ogb := ogb.nw hs7
            replace gbx := fun x hx_ => (gbx x hx_).nw hs7
            replace oc := oc.nw hs7
            replace od := od.nw hs7
            replace vy8 := vy8.nw hs7
            replace hm0 := hm0.tr hs7
            replace hlm1 := hlm1.tr hs7
            replace hcm14 := hcm14.tr hs7
            replace hq8 := hq8.trN hs7
            have hz56 := hs7.size
            refine ⟨.inr hq8, LH.narrow (SH2 := fun Hq => Mo (Ms [(HL1.size + 1), (H32.size + 1)]) H7 Hq) (fun Hq hq => hq8.trL hq (MIL.cons (MI.app (MI.root (by simp)) (nx307) (Nat.le_refl _)) (MIL.cons (MI.app MI.z (nx342) (Nat.le_refl _)) MIL.nil))) ?_⟩
            have hq8 : Mo (Ms [(HL1.size + 1), (H32.size + 1)]) H7 H7 := Mo.refl _ _
            have nx343 := Nx.refl (HL1.size + 1) H7.size
            have nx344 := Nx.refl (H32.size + 1) H7.size
            refine LH.one (i := 13) (by kernel_rfl) ?_
            -- call selvage/selvageref15.Find
            refine LO.call rfl rfl Try.call19 rfl (Wd.u rfl) rfl rfl (find_ct v15 gb out[i].n w0 _ ogb.rd.any) (fun v39 H39 r39 => ?_)
            obtain ⟨rfl, hs39⟩ := r39
            replace ha := ha.nw hs39
            replace hb := hb.nw hs39
            replace hx := fun x hx0 => (hx x hx0).nw hs39
            replace hy := fun x hy0 => (hy x hy0).nw hs39
            replace oga := oga.nw hs39
            replace gax := fun x hx_ => (gax x hx_).nw hs39
            replace ogb := ogb.nw hs39
            replace gbx := fun x hx_ => (gbx x hx_).nw hs39
            replace oc := oc.nw hs39
            replace od := od.nw hs39
            replace vy8 := vy8.nw hs39
            replace vx7 := vx7.nw hs39
            replace hm0 := hm0.tr hs39
            replace hlm1 := hlm1.tr hs39
            replace hcm14 := hcm14.tr hs39
            replace hq8 := hq8.trN hs39
            have hz57 := hs39.size
            refine ⟨.inr hq8, LH.narrow (SH2 := fun Hq => Mo (Ms [(HL1.size + 1), (H32.size + 1)]) H39 Hq) (fun Hq hq => hq8.trL hq (MIL.cons (MI.app (MI.root (by simp)) (nx343) (Nat.le_refl _)) (MIL.cons (MI.app (MI.root (by simp)) (nx344) (Nat.le_refl _)) MIL.nil))) ?_⟩
            have hq8 : Mo (Ms [(HL1.size + 1), (H32.size + 1)]) H39 H39 := Mo.refl _ _
            have nx345 := Nx.refl (HL1.size + 1) H39.size
            have nx346 := Nx.refl (H32.size + 1) H39.size
            refine LH.one (i := 16) (by kernel_rfl) ?_
            refine LO.s rfl (S.var vx7 (_) (fFl (findF ga out[i].o)) rfl rfl rfl rfl (fFl_one (findF ga out[i].o)) Try.sizeOf35 (rfl) (Nat.le_of_ble_eq_true rfl) (rfl)) (Wd.u rfl) rfl (fun H8_16 r8_16 => ?_)
            obtain ⟨vx7, hs8_16⟩ := r8_16
            replace hs8_16 := hs8_16.md1
            replace ha := ha.upL hs8_16 (DFL.cons df328 DFL.nil)
            replace hb := hb.upL hs8_16 (DFL.cons df329 DFL.nil)
            replace hx := fun x hx0 => (hx x hx0).upL hs8_16 (DFL.cons df330 DFL.nil)
            replace hy := fun x hy0 => (hy x hy0).upL hs8_16 (DFL.cons df331 DFL.nil)
            replace oga := oga.upL hs8_16 (DL.cons dj332 DL.nil)
            replace gax := fun x hx_ => (gax x hx_).upL hs8_16 (DFL.cons df333 DFL.nil)
            replace ogb := ogb.upL hs8_16 (DL.cons dj334 DL.nil)
            replace gbx := fun x hx_ => (gbx x hx_).upL hs8_16 (DFL.cons df335 DFL.nil)
            replace oc := oc.upL hs8_16 (DL.cons dj336 DL.nil)
            replace od := od.upL hs8_16 (DL.cons dj337 DL.nil)
            replace vy8 := vy8.upL hs8_16 (DL.cons dj338 DL.nil)
            replace hm0 := (Mo.trL (ks := []) (hm0.mdn []) hs8_16 (MIL.cons (MI.app MI.z (nx339) (Nat.le_refl _)) MIL.nil)).nil
            replace hlm1 := (Mo.trL (ks := []) (hlm1.mdn []) hs8_16 (MIL.cons (MI.app MI.z (nx340) (Nat.le_refl _)) MIL.nil)).nil
            replace hcm14 := (Mo.trL (ks := []) (hcm14.mdn []) hs8_16 (MIL.cons (MI.app MI.z (nx341) (Nat.le_refl _)) MIL.nil)).nil
            replace hq8 := hq8.trL hs8_16 (MIL.cons (MI.app (MI.root (by simp)) (nx346) (Nat.le_refl _)) MIL.nil)
            have hz58 := hs8_16.size
            refine ⟨.inr hq8, LH.narrow (SH2 := fun Hq => Mo (Ms [(HL1.size + 1), (H32.size + 1)]) H8_16 Hq) (fun Hq hq => hq8.trL hq (MIL.cons (MI.app (MI.root (by simp)) (nx345) (Nat.le_refl _)) (MIL.cons (MI.app (MI.root (by simp)) (nx346) (Nat.le_refl _)) MIL.nil))) ?_⟩
            have hq8 : Mo (Ms [(HL1.size + 1), (H32.size + 1)]) H8_16 H8_16 := Mo.refl _ _
            have nx347 := Nx.refl (HL1.size + 1) H8_16.size
            have nx348 := Nx.refl (H32.size + 1) H8_16.size
            refine LH.one (i := 17) (by kernel_rfl) ?_
            refine LO.s rfl (S.var vy8 (_) (fFl (findF gb out[i].n)) rfl rfl rfl rfl (fFl_one (findF gb out[i].n)) Try.sizeOf35 (rfl) (Nat.le_of_ble_eq_true rfl) (rfl)) (Wd.u rfl) rfl (fun H8_17 r8_17 => ?_)
            obtain ⟨vy8, hs8_17⟩ := r8_17
            replace hs8_17 := hs8_17.md1
            replace ha := ha.upL hs8_17 (DFL.cons df292 DFL.nil)
            replace hb := hb.upL hs8_17 (DFL.cons df293 DFL.nil)
            replace hx := fun x hx0 => (hx x hx0).upL hs8_17 (DFL.cons df294 DFL.nil)
            replace hy := fun x hy0 => (hy x hy0).upL hs8_17 (DFL.cons df295 DFL.nil)
            replace oga := oga.upL hs8_17 (DL.cons dj296 DL.nil)
            replace gax := fun x hx_ => (gax x hx_).upL hs8_17 (DFL.cons df297 DFL.nil)
            replace ogb := ogb.upL hs8_17 (DL.cons dj298 DL.nil)
            replace gbx := fun x hx_ => (gbx x hx_).upL hs8_17 (DFL.cons df299 DFL.nil)
            replace oc := oc.upL hs8_17 (DL.cons dj300 DL.nil)
            replace od := od.upL hs8_17 (DL.cons dj301 DL.nil)
            replace vx7 := vx7.upL hs8_17 (DL.cons dj338.symm DL.nil)
            replace hm0 := (Mo.trL (ks := []) (hm0.mdn []) hs8_17 (MIL.cons (MI.app MI.z (nx302) (Nat.le_refl _)) MIL.nil)).nil
            replace hlm1 := (Mo.trL (ks := []) (hlm1.mdn []) hs8_17 (MIL.cons (MI.app MI.z (nx303) (Nat.le_refl _)) MIL.nil)).nil
            replace hcm14 := (Mo.trL (ks := []) (hcm14.mdn []) hs8_17 (MIL.cons (MI.app MI.z (nx304) (Nat.le_refl _)) MIL.nil)).nil
            replace hq8 := hq8.trL hs8_17 (MIL.cons (MI.app (MI.root (by simp)) (nx347) (Nat.le_refl _)) MIL.nil)
            have hz59 := hs8_17.size
            refine ⟨.inl rfl, ?_⟩
            refine LH.done (by kernel_rfl) ?_
            refine QN.sub (hK14 ((H32.size + 1) - 1, (HL1.size + 1) - 1) _ ?_) ⟨rfl, rfl, rfl, (iv (by omega)), rfl, rfl, trivial⟩
            exact ⟨⟨vx7, vy8⟩, hcm14⟩
        ·
          refine LO.z rfl (Z.allocv rfl Try.zeroValue35) (Wd.u rfl) rfl rfl (fun v7 H7 r7 => ?_)
          obtain ⟨rfl, vx7, hs7, ob7, hH7⟩ := r7
          have hzs7 : H7.size = H8.size + 1 := by rw [hH7]; simp
          have df349 := (DF.new (bf_ha.mono hm0.size) : DF _ (H8.size + 1))
          have df350 := (DF.new (bf_hb.mono hm0.size) : DF _ (H8.size + 1))
          have df351 := (DF.new (bf_hx.mono hm0.size) : DF _ (H8.size + 1))
          have df352 := (DF.new (bf_hy.mono hm0.size) : DF _ (H8.size + 1))
          have dj353 : Dj koga (H8.size + 1) := Dj.new oga.le
          have df354 := (DF.new (bf_gax.mono (by omega)) : DF _ (H8.size + 1))
          have dj355 : Dj kogb (H8.size + 1) := Dj.new ogb.le
          have df356 := (DF.new (bf_gbx.mono (by omega)) : DF _ (H8.size + 1))
          have dj357 : Dj kc (H8.size + 1) := Dj.new oc.le
          have dj358 : Dj kd (H8.size + 1) := Dj.new od.le
          have dj359 : Dj (HL1.size + 1) (H8.size + 1) := Dj.new vy8.lt
          have nx360 : Nx 0 H0.size (H8.size + 1) := Nx.new hm0.size
          have nx361 : Nx 0 H19.size (H8.size + 1) := Nx.new hlm1.size
          have nx362 : Nx 0 HL1.size (H8.size + 1) := Nx.new hcm14.size
          have nx363 : Nx 0 H8.size (H8.size + 1) := Nx.new hq8.size
          replace ha := ha.nw hs7
          replace hb := hb.nw hs7
          replace hx := fun x hx0 => (hx x hx0).nw hs7
          replace hy := fun x hy0 => (hy x hy0).nw hs7
          replace oga := oga.nw hs7
          replace gax := fun x hx_ => (gax x hx_).nw hs7
          replace ogb := ogb.nw hs7
          replace gbx := fun x hx_ => (gbx x hx_).nw hs7
          replace oc := oc.nw hs7
          replace od := od.nw hs7
          replace vy8 := vy8.nw hs7
          replace hm0 := hm0.tr hs7
          replace hlm1 := hlm1.tr hs7
          replace hcm14 := hcm14.tr hs7
          replace hq8 := hq8.trN hs7
          have hz60 := hs7.size
          refine ⟨.inr hq8, LH.narrow (SH2 := fun Hq => Mo (Ms [(HL1.size + 1), (H8.size + 1)]) H7 Hq) (fun Hq hq => hq8.trL hq (MIL.cons (MI.app (MI.root (by simp)) (nx306) (Nat.le_refl _)) (MIL.cons (MI.app MI.z (nx363) (Nat.le_refl _)) MIL.nil))) ?_⟩
          have hq8 : Mo (Ms [(HL1.size + 1), (H8.size + 1)]) H7 H7 := Mo.refl _ _
          have nx364 := Nx.refl (HL1.size + 1) H7.size
          have nx365 := Nx.refl (H8.size + 1) H7.size
          refine LH.one (i := 6) (by kernel_rfl) ?_
          -- call selvage/selvageref15.Find
          refine LO.call rfl rfl Try.call19 rfl (Wd.u rfl) rfl rfl (find_ct v13 ga out[i].o w0 _ oga.rd.any) (fun v32 H32 r32 => ?_)
          obtain ⟨rfl, hs32⟩ := r32
          replace ha := ha.nw hs32
          replace hb := hb.nw hs32
          replace hx := fun x hx0 => (hx x hx0).nw hs32
          replace hy := fun x hy0 => (hy x hy0).nw hs32
          replace oga := oga.nw hs32
          replace gax := fun x hx_ => (gax x hx_).nw hs32
          replace ogb := ogb.nw hs32
          replace gbx := fun x hx_ => (gbx x hx_).nw hs32
          replace oc := oc.nw hs32
          replace od := od.nw hs32
          replace vy8 := vy8.nw hs32
          replace vx7 := vx7.nw hs32
          replace hm0 := hm0.tr hs32
          replace hlm1 := hlm1.tr hs32
          replace hcm14 := hcm14.tr hs32
          replace hq8 := hq8.trN hs32
          have hz61 := hs32.size
          refine ⟨.inr hq8, LH.narrow (SH2 := fun Hq => Mo (Ms [(HL1.size + 1), (H8.size + 1)]) H32 Hq) (fun Hq hq => hq8.trL hq (MIL.cons (MI.app (MI.root (by simp)) (nx364) (Nat.le_refl _)) (MIL.cons (MI.app (MI.root (by simp)) (nx365) (Nat.le_refl _)) MIL.nil))) ?_⟩
          have hq8 : Mo (Ms [(HL1.size + 1), (H8.size + 1)]) H32 H32 := Mo.refl _ _
          have nx366 := Nx.refl (HL1.size + 1) H32.size
          have nx367 := Nx.refl (H8.size + 1) H32.size
          refine LH.one (i := 13) (by kernel_rfl) ?_
          -- call selvage/selvageref15.Find
          refine LO.call rfl rfl Try.call19 rfl (Wd.u rfl) rfl rfl (find_ct v15 gb out[i].n w0 _ ogb.rd.any) (fun v39 H39 r39 => ?_)
          obtain ⟨rfl, hs39⟩ := r39
          replace ha := ha.nw hs39
          replace hb := hb.nw hs39
          replace hx := fun x hx0 => (hx x hx0).nw hs39
          replace hy := fun x hy0 => (hy x hy0).nw hs39
          replace oga := oga.nw hs39
          replace gax := fun x hx_ => (gax x hx_).nw hs39
          replace ogb := ogb.nw hs39
          replace gbx := fun x hx_ => (gbx x hx_).nw hs39
          replace oc := oc.nw hs39
          replace od := od.nw hs39
          replace vy8 := vy8.nw hs39
          replace vx7 := vx7.nw hs39
          replace hm0 := hm0.tr hs39
          replace hlm1 := hlm1.tr hs39
          replace hcm14 := hcm14.tr hs39
          replace hq8 := hq8.trN hs39
          have hz62 := hs39.size
          refine ⟨.inr hq8, LH.narrow (SH2 := fun Hq => Mo (Ms [(HL1.size + 1), (H8.size + 1)]) H39 Hq) (fun Hq hq => hq8.trL hq (MIL.cons (MI.app (MI.root (by simp)) (nx366) (Nat.le_refl _)) (MIL.cons (MI.app (MI.root (by simp)) (nx367) (Nat.le_refl _)) MIL.nil))) ?_⟩
          have hq8 : Mo (Ms [(HL1.size + 1), (H8.size + 1)]) H39 H39 := Mo.refl _ _
          have nx368 := Nx.refl (HL1.size + 1) H39.size
          have nx369 := Nx.refl (H8.size + 1) H39.size
          refine LH.one (i := 16) (by kernel_rfl) ?_
          refine LO.s rfl (S.var vx7 (_) (fFl (findF ga out[i].o)) rfl rfl rfl rfl (fFl_one (findF ga out[i].o)) Try.sizeOf35 (rfl) (Nat.le_of_ble_eq_true rfl) (rfl)) (Wd.u rfl) rfl (fun H8_16 r8_16 => ?_)
          obtain ⟨vx7, hs8_16⟩ := r8_16
          replace hs8_16 := hs8_16.md1
          replace ha := ha.upL hs8_16 (DFL.cons df349 DFL.nil)
          replace hb := hb.upL hs8_16 (DFL.cons df350 DFL.nil)
          replace hx := fun x hx0 => (hx x hx0).upL hs8_16 (DFL.cons df351 DFL.nil)
          replace hy := fun x hy0 => (hy x hy0).upL hs8_16 (DFL.cons df352 DFL.nil)
          replace oga := oga.upL hs8_16 (DL.cons dj353 DL.nil)
          replace gax := fun x hx_ => (gax x hx_).upL hs8_16 (DFL.cons df354 DFL.nil)
          replace ogb := ogb.upL hs8_16 (DL.cons dj355 DL.nil)
          replace gbx := fun x hx_ => (gbx x hx_).upL hs8_16 (DFL.cons df356 DFL.nil)
          replace oc := oc.upL hs8_16 (DL.cons dj357 DL.nil)
          replace od := od.upL hs8_16 (DL.cons dj358 DL.nil)
          replace vy8 := vy8.upL hs8_16 (DL.cons dj359 DL.nil)
          replace hm0 := (Mo.trL (ks := []) (hm0.mdn []) hs8_16 (MIL.cons (MI.app MI.z (nx360) (Nat.le_refl _)) MIL.nil)).nil
          replace hlm1 := (Mo.trL (ks := []) (hlm1.mdn []) hs8_16 (MIL.cons (MI.app MI.z (nx361) (Nat.le_refl _)) MIL.nil)).nil
          replace hcm14 := (Mo.trL (ks := []) (hcm14.mdn []) hs8_16 (MIL.cons (MI.app MI.z (nx362) (Nat.le_refl _)) MIL.nil)).nil
          replace hq8 := hq8.trL hs8_16 (MIL.cons (MI.app (MI.root (by simp)) (nx369) (Nat.le_refl _)) MIL.nil)
          have hz63 := hs8_16.size
          refine ⟨.inr hq8, LH.narrow (SH2 := fun Hq => Mo (Ms [(HL1.size + 1), (H8.size + 1)]) H8_16 Hq) (fun Hq hq => hq8.trL hq (MIL.cons (MI.app (MI.root (by simp)) (nx368) (Nat.le_refl _)) (MIL.cons (MI.app (MI.root (by simp)) (nx369) (Nat.le_refl _)) MIL.nil))) ?_⟩
          have hq8 : Mo (Ms [(HL1.size + 1), (H8.size + 1)]) H8_16 H8_16 := Mo.refl _ _
          have nx370 := Nx.refl (HL1.size + 1) H8_16.size
          have nx371 := Nx.refl (H8.size + 1) H8_16.size
          refine LH.one (i := 17) (by kernel_rfl) ?_
          refine LO.s rfl (S.var vy8 (_) (fFl (findF gb out[i].n)) rfl rfl rfl rfl (fFl_one (findF gb out[i].n)) Try.sizeOf35 (rfl) (Nat.le_of_ble_eq_true rfl) (rfl)) (Wd.u rfl) rfl (fun H8_17 r8_17 => ?_)
          obtain ⟨vy8, hs8_17⟩ := r8_17
          replace hs8_17 := hs8_17.md1
          replace ha := ha.upL hs8_17 (DFL.cons df292 DFL.nil)
          replace hb := hb.upL hs8_17 (DFL.cons df293 DFL.nil)
          replace hx := fun x hx0 => (hx x hx0).upL hs8_17 (DFL.cons df294 DFL.nil)
          replace hy := fun x hy0 => (hy x hy0).upL hs8_17 (DFL.cons df295 DFL.nil)
          replace oga := oga.upL hs8_17 (DL.cons dj296 DL.nil)
          replace gax := fun x hx_ => (gax x hx_).upL hs8_17 (DFL.cons df297 DFL.nil)
          replace ogb := ogb.upL hs8_17 (DL.cons dj298 DL.nil)
          replace gbx := fun x hx_ => (gbx x hx_).upL hs8_17 (DFL.cons df299 DFL.nil)
          replace oc := oc.upL hs8_17 (DL.cons dj300 DL.nil)
          replace od := od.upL hs8_17 (DL.cons dj301 DL.nil)
          replace vx7 := vx7.upL hs8_17 (DL.cons dj359.symm DL.nil)
          replace hm0 := (Mo.trL (ks := []) (hm0.mdn []) hs8_17 (MIL.cons (MI.app MI.z (nx302) (Nat.le_refl _)) MIL.nil)).nil
          replace hlm1 := (Mo.trL (ks := []) (hlm1.mdn []) hs8_17 (MIL.cons (MI.app MI.z (nx303) (Nat.le_refl _)) MIL.nil)).nil
          replace hcm14 := (Mo.trL (ks := []) (hcm14.mdn []) hs8_17 (MIL.cons (MI.app MI.z (nx304) (Nat.le_refl _)) MIL.nil)).nil
          replace hq8 := hq8.trL hs8_17 (MIL.cons (MI.app (MI.root (by simp)) (nx370) (Nat.le_refl _)) MIL.nil)
          have hz64 := hs8_17.size
          refine ⟨.inl rfl, ?_⟩
          refine LH.done (by kernel_rfl) ?_
          refine QN.sub (hK14 ((H8.size + 1) - 1, (HL1.size + 1) - 1) _ ?_) ⟨rfl, rfl, rfl, (iv (by omega)), rfl, rfl, trivial⟩
          exact ⟨⟨vx7, vy8⟩, hcm14⟩
    ·
      rintro ⟨bx, by_⟩ Hcutr8 hIcutr8
      obtain ⟨vxy, hlmcutr8⟩ := hIcutr8
      replace ha := ha.nw hlmcutr8
      replace hb := hb.nw hlmcutr8
      replace hx := fun x hx0 => (hx x hx0).nw hlmcutr8
      replace hy := fun x hy0 => (hy x hy0).nw hlmcutr8
      replace oga := oga.nw hlmcutr8
      replace gax := fun x hx_ => (gax x hx_).nw hlmcutr8
      replace ogb := ogb.nw hlmcutr8
      replace gbx := fun x hx_ => (gbx x hx_).nw hlmcutr8
      replace oc := oc.nw hlmcutr8
      replace od := od.nw hlmcutr8
      replace hm0 := hm0.tr hlmcutr8
      replace hlm1 := hlm1.tr hlmcutr8
      have hz65 := hlmcutr8.size
      have hil : i < out.length := by omega
      obtain ⟨f1, f2, f3, f4, f5, f6, f7, f8⟩ := hof out[i] (List.getElem_mem hil)
      have holm := od.len
      refine CW.seq (fun K15 hK15 hE15 => ?_)
      refine CW.seq (fun K16 hK16 hE16 => ?_)
      refine CW.region_any (fun Hq => Nw Hcutr8 Hq) [] rfl ?_
      have hqs := Nw.refl Hcutr8
      refine LH.take 0 (by kernel_rfl) rfl (by kernel_rfl) (by kernel_rfl) (by kernel_rfl) (fun Hq hq => Y.fieldAddr ((vxy.x.pt).nw hq) rfl Try.runUnderlying35 rfl rfl Try.sizeOf3 (by decide) rfl) (Wd.u rfl) rfl rfl hqs ?_
      refine LH.take 1 (by kernel_rfl) rfl (by kernel_rfl) (by kernel_rfl) (by kernel_rfl) (fun Hq hq => Y.load1 (((vxy.x.pt).drop 1).nw hq) rfl Try.isAgg3 rfl) (Wd.u rfl) rfl rfl hqs ?_
      refine LH.take 2 (by kernel_rfl) rfl (by kernel_rfl) (by kernel_rfl) (by kernel_rfl) (fun Hq hq => (Y.eql rfl rfl rfl).isF (f1)) (Wd.u rfl) rfl rfl hqs ?_
      refine LH.take 3 (by kernel_rfl) rfl (by kernel_rfl) (by kernel_rfl) (by kernel_rfl) (fun Hq hq => Y.move rfl rfl) (Wd.u rfl) rfl rfl hqs ?_
      refine LH.take 4 (by kernel_rfl) rfl (by kernel_rfl) (by kernel_rfl) (by kernel_rfl) (fun Hq hq => Y.fieldAddr ((vxy.y.pt).nw hq) rfl Try.runUnderlying35 rfl rfl Try.sizeOf3 (by decide) rfl) (Wd.g rfl rfl rfl) rfl rfl hqs ?_
      refine LH.take 5 (by kernel_rfl) rfl (by kernel_rfl) (by kernel_rfl) (by kernel_rfl) (fun Hq hq => Y.load1 (((vxy.y.pt).drop 1).nw hq) rfl Try.isAgg3 rfl) (Wd.g rfl rfl rfl) rfl rfl hqs ?_
      refine LH.take 6 (by kernel_rfl) rfl (by kernel_rfl) (by kernel_rfl) (by kernel_rfl) (fun Hq hq => (Y.eql rfl rfl rfl).isF (f2)) (Wd.g rfl rfl rfl) rfl rfl hqs ?_
      refine LH.take 7 (by kernel_rfl) rfl (by kernel_rfl) (by kernel_rfl) (by kernel_rfl) (fun Hq hq => Y.pick_f rfl rfl rfl) (Wd.u rfl) rfl rfl hqs ?_
      refine LH.take 8 (by kernel_rfl) rfl (by kernel_rfl) (by kernel_rfl) (by kernel_rfl) (fun Hq hq => Y.move rfl rfl) (Wd.u rfl) rfl rfl hqs ?_
      refine LH.take 9 (by kernel_rfl) rfl (by kernel_rfl) (by kernel_rfl) (by kernel_rfl) (fun Hq hq => Y.move rfl rfl) (Wd.g rfl rfl rfl) rfl rfl hqs ?_
      refine LH.take 10 (by kernel_rfl) rfl (by kernel_rfl) (by kernel_rfl) (by kernel_rfl) (fun Hq hq => Y.move rfl rfl) (Wd.g rfl rfl rfl) rfl rfl hqs ?_
      refine LH.take 11 (by kernel_rfl) rfl (by kernel_rfl) (by kernel_rfl) (by kernel_rfl) (fun Hq hq => Y.move rfl rfl) (Wd.g rfl rfl rfl) rfl rfl hqs ?_
      refine LH.take 12 (by kernel_rfl) rfl (by kernel_rfl) (by kernel_rfl) (by kernel_rfl) (fun Hq hq => Y.owAddr (od.nw hq) (i) rfl Try.runUnderlying31 Try.sizeOf38 rfl rfl (by first | rfl | omega) (by first | omega | (simp; omega) | (simp; done))) (Wd.g rfl rfl rfl) rfl rfl hqs ?_
      refine LH.take 13 (by kernel_rfl) rfl (by kernel_rfl) (by kernel_rfl) (by kernel_rfl) (fun Hq hq => Y.fieldAddr ((od.pt (j := i) (by first | omega | (simp; omega) | (simp; done))).nw hq) rfl Try.runUnderlying38 rfl rfl Try.sizeOf9 (by decide) rfl) (Wd.g rfl rfl rfl) rfl rfl hqs ?_
      refine LH.take 14 (by kernel_rfl) rfl (by kernel_rfl) (by kernel_rfl) (by kernel_rfl) (fun Hq hq => Y.load1 (((od.pt (j := i) (by first | omega | (simp; omega) | (simp; done))).drop 0).nw hq) rfl Try.isAgg9 rfl) (Wd.g rfl rfl rfl) rfl rfl hqs ?_
      refine LH.one (i := 15) (by kernel_rfl) ?_
      -- call selvage/selvageref15.Find
      refine LO.call rfl rfl Try.call19 rfl (Wd.g rfl rfl rfl) rfl rfl (find_ct v15 gb out[i].o w0 _ ogb.rd.any) (fun v55 H55 r55 => ?_)
      obtain ⟨rfl, hs55⟩ := r55
      replace ha := ha.nw hs55
      replace hb := hb.nw hs55
      replace hx := fun x hx0 => (hx x hx0).nw hs55
      replace hy := fun x hy0 => (hy x hy0).nw hs55
      replace oga := oga.nw hs55
      replace gax := fun x hx_ => (gax x hx_).nw hs55
      replace ogb := ogb.nw hs55
      replace gbx := fun x hx_ => (gbx x hx_).nw hs55
      replace oc := oc.nw hs55
      replace od := od.nw hs55
      replace vxy := vxy.nw hs55
      replace hm0 := hm0.tr hs55
      replace hlm1 := hlm1.tr hs55
      have hz66 := hs55.size
      have hq55 := hqs.tr hs55
      refine ⟨.inr hq55, LH.narrow (SH2 := fun Hq => Nw H55 Hq) (fun Hq hq => hq55.tr hq) ?_⟩
      have hqn55 := Nw.refl H55
      refine LH.take 16 (by kernel_rfl) rfl (by kernel_rfl) (by kernel_rfl) (by kernel_rfl) (fun Hq hq => Y.field rfl Try.runUnderlying35 rfl rfl Try.isAgg3 rfl rfl) (Wd.g rfl rfl rfl) rfl rfl hqn55 ?_
      refine LH.take 17 (by kernel_rfl) rfl (by kernel_rfl) (by kernel_rfl) (by kernel_rfl) (fun Hq hq => (Y.neq rfl rfl rfl).isF (fun h => h f3)) (Wd.g rfl rfl rfl) rfl rfl hqn55 ?_
      refine LH.take 18 (by kernel_rfl) rfl (by kernel_rfl) (by kernel_rfl) (by kernel_rfl) (fun Hq hq => Y.pick_f rfl rfl rfl) (Wd.u rfl) rfl rfl hqn55 ?_
      refine LH.take 19 (by kernel_rfl) rfl (by kernel_rfl) (by kernel_rfl) (by kernel_rfl) (fun Hq hq => Y.move rfl rfl) (Wd.u rfl) rfl rfl hqn55 ?_
      refine LH.take 20 (by kernel_rfl) rfl (by kernel_rfl) (by kernel_rfl) (by kernel_rfl) (fun Hq hq => Y.move rfl rfl) (Wd.g rfl rfl rfl) rfl rfl hqn55 ?_
      refine LH.take 21 (by kernel_rfl) rfl (by kernel_rfl) (by kernel_rfl) (by kernel_rfl) (fun Hq hq => Y.move rfl rfl) (Wd.g rfl rfl rfl) rfl rfl hqn55 ?_
      refine LH.take 22 (by kernel_rfl) rfl (by kernel_rfl) (by kernel_rfl) (by kernel_rfl) (fun Hq hq => Y.move rfl rfl) (Wd.g rfl rfl rfl) rfl rfl hqn55 ?_
      refine LH.take 23 (by kernel_rfl) rfl (by kernel_rfl) (by kernel_rfl) (by kernel_rfl) (fun Hq hq => Y.owAddr (od.nw hq) (i) rfl Try.runUnderlying31 Try.sizeOf38 rfl rfl (by first | rfl | omega) (by first | omega | (simp; omega) | (simp; done))) (Wd.g rfl rfl rfl) rfl rfl hqn55 ?_
      refine LH.take 24 (by kernel_rfl) rfl (by kernel_rfl) (by kernel_rfl) (by kernel_rfl) (fun Hq hq => Y.fieldAddr ((od.pt (j := i) (by first | omega | (simp; omega) | (simp; done))).nw hq) rfl Try.runUnderlying38 rfl rfl Try.sizeOf9 (by decide) rfl) (Wd.g rfl rfl rfl) rfl rfl hqn55 ?_
      refine LH.take 25 (by kernel_rfl) rfl (by kernel_rfl) (by kernel_rfl) (by kernel_rfl) (fun Hq hq => Y.load1 (((od.pt (j := i) (by first | omega | (simp; omega) | (simp; done))).drop 1).nw hq) rfl Try.isAgg9 rfl) (Wd.g rfl rfl rfl) rfl rfl hqn55 ?_
      refine LH.one (i := 26) (by kernel_rfl) ?_
      -- call selvage/selvageref15.Find
      refine LO.call rfl rfl Try.call19 rfl (Wd.g rfl rfl rfl) rfl rfl (find_ct v13 ga out[i].n w0 _ oga.rd.any) (fun v66 H66 r66 => ?_)
      obtain ⟨rfl, hs66⟩ := r66
      replace ha := ha.nw hs66
      replace hb := hb.nw hs66
      replace hx := fun x hx0 => (hx x hx0).nw hs66
      replace hy := fun x hy0 => (hy x hy0).nw hs66
      replace oga := oga.nw hs66
      replace gax := fun x hx_ => (gax x hx_).nw hs66
      replace ogb := ogb.nw hs66
      replace gbx := fun x hx_ => (gbx x hx_).nw hs66
      replace oc := oc.nw hs66
      replace od := od.nw hs66
      replace vxy := vxy.nw hs66
      replace hm0 := hm0.tr hs66
      replace hlm1 := hlm1.tr hs66
      have hz67 := hs66.size
      have hq66 := hqn55.tr hs66
      refine ⟨.inr hq66, LH.narrow (SH2 := fun Hq => Nw H66 Hq) (fun Hq hq => hq66.tr hq) ?_⟩
      have hqn66 := Nw.refl H66
      refine LH.take 27 (by kernel_rfl) rfl (by kernel_rfl) (by kernel_rfl) (by kernel_rfl) (fun Hq hq => Y.field rfl Try.runUnderlying35 rfl rfl Try.isAgg3 rfl rfl) (Wd.g rfl rfl rfl) rfl rfl hqn66 ?_
      refine LH.take 28 (by kernel_rfl) rfl (by kernel_rfl) (by kernel_rfl) (by kernel_rfl) (fun Hq hq => (Y.neq rfl rfl rfl).isF (fun h => h f4)) (Wd.g rfl rfl rfl) rfl rfl hqn66 ?_
      refine LH.take 29 (by kernel_rfl) rfl (by kernel_rfl) (by kernel_rfl) (by kernel_rfl) (fun Hq hq => Y.pick_f rfl rfl rfl) (Wd.u rfl) rfl rfl hqn66 ?_
      refine LH.take 30 (by kernel_rfl) rfl (by kernel_rfl) (by kernel_rfl) (by kernel_rfl) (fun Hq hq => Y.move rfl rfl) (Wd.u rfl) rfl rfl hqn66 ?_
      refine LH.take 31 (by kernel_rfl) rfl (by kernel_rfl) (by kernel_rfl) (by kernel_rfl) (fun Hq hq => Y.move rfl rfl) (Wd.g rfl rfl rfl) rfl rfl hqn66 ?_
      refine LH.take 32 (by kernel_rfl) rfl (by kernel_rfl) (by kernel_rfl) (by kernel_rfl) (fun Hq hq => Y.move rfl rfl) (Wd.g rfl rfl rfl) rfl rfl hqn66 ?_
      refine LH.take 33 (by kernel_rfl) rfl (by kernel_rfl) (by kernel_rfl) (by kernel_rfl) (fun Hq hq => Y.owAddr (od.nw hq) (i) rfl Try.runUnderlying31 Try.sizeOf38 rfl rfl (by first | rfl | omega) (by first | omega | (simp; omega) | (simp; done))) (Wd.g rfl rfl rfl) rfl rfl hqn66 ?_
      refine LH.take 34 (by kernel_rfl) rfl (by kernel_rfl) (by kernel_rfl) (by kernel_rfl) (fun Hq hq => Y.fieldAddr ((od.pt (j := i) (by first | omega | (simp; omega) | (simp; done))).nw hq) rfl Try.runUnderlying38 rfl rfl Try.sizeOf3 (by decide) rfl) (Wd.g rfl rfl rfl) rfl rfl hqn66 ?_
      refine LH.take 35 (by kernel_rfl) rfl (by kernel_rfl) (by kernel_rfl) (by kernel_rfl) (fun Hq hq => Y.load1 (((od.pt (j := i) (by first | omega | (simp; omega) | (simp; done))).drop 2).nw hq) rfl Try.isAgg3 rfl) (Wd.g rfl rfl rfl) rfl rfl hqn66 ?_
      refine LH.take 36 (by kernel_rfl) rfl (by kernel_rfl) (by kernel_rfl) (by kernel_rfl) (fun Hq hq => Y.fieldAddr ((vxy.x.pt).nw hq) rfl Try.runUnderlying35 rfl rfl Try.sizeOf22 (by decide) rfl) (Wd.g rfl rfl rfl) rfl rfl hqn66 ?_
      refine LH.take 37 (by kernel_rfl) rfl (by kernel_rfl) (by kernel_rfl) (by kernel_rfl) (fun Hq hq => Y.load1 (((vxy.x.pt).drop 2).nw hq) rfl Try.isAgg22 rfl) (Wd.g rfl rfl rfl) rfl rfl hqn66 ?_
      refine LH.take 38 (by kernel_rfl) rfl (by kernel_rfl) (by kernel_rfl) (by kernel_rfl) (fun Hq hq => Y.fieldAddr ((vxy.y.pt).nw hq) rfl Try.runUnderlying35 rfl rfl Try.sizeOf22 (by decide) rfl) (Wd.g rfl rfl rfl) rfl rfl hqn66 ?_
      refine LH.take 39 (by kernel_rfl) rfl (by kernel_rfl) (by kernel_rfl) (by kernel_rfl) (fun Hq hq => Y.load1 (((vxy.y.pt).drop 2).nw hq) rfl Try.isAgg22 rfl) (Wd.g rfl rfl rfl) rfl rfl hqn66 ?_
      refine LH.one (i := 40) (by kernel_rfl) ?_
      -- call selvage/rename.Score
      refine LO.call rfl rfl Try.call11 rfl (Wd.g rfl rfl rfl) rfl rfl (pscore_ct _ _ (findF ga out[i].o).d (findF gb out[i].n).d w0 _ (findF_R gax out[i].o).d (findF_R gbx out[i].n).d (by omega) (by omega)) (fun v80 H80 r80 => ?_)
      obtain ⟨rfl, hs80⟩ := r80
      replace ha := ha.nw hs80
      replace hb := hb.nw hs80
      replace hx := fun x hx0 => (hx x hx0).nw hs80
      replace hy := fun x hy0 => (hy x hy0).nw hs80
      replace oga := oga.nw hs80
      replace gax := fun x hx_ => (gax x hx_).nw hs80
      replace ogb := ogb.nw hs80
      replace gbx := fun x hx_ => (gbx x hx_).nw hs80
      replace oc := oc.nw hs80
      replace od := od.nw hs80
      replace vxy := vxy.nw hs80
      replace hm0 := hm0.tr hs80
      replace hlm1 := hlm1.tr hs80
      have hz68 := hs80.size
      have hq80 := hqn66.tr hs80
      refine ⟨.inr hq80, LH.narrow (SH2 := fun Hq => Nw H80 Hq) (fun Hq hq => hq80.tr hq) ?_⟩
      have hqn80 := Nw.refl H80
      refine LH.take 41 (by kernel_rfl) rfl (by kernel_rfl) (by kernel_rfl) (by kernel_rfl) (fun Hq hq => (Y.neq rfl rfl rfl).isF (fun h => h f5)) (Wd.g rfl rfl rfl) rfl rfl hqn80 ?_
      refine LH.take 42 (by kernel_rfl) rfl (by kernel_rfl) (by kernel_rfl) (by kernel_rfl) (fun Hq hq => Y.pick_f rfl rfl rfl) (Wd.u rfl) rfl rfl hqn80 ?_
      refine LH.take 43 (by kernel_rfl) rfl (by kernel_rfl) (by kernel_rfl) (by kernel_rfl) (fun Hq hq => Y.move rfl rfl) (Wd.u rfl) rfl rfl hqn80 ?_
      refine LH.take 44 (by kernel_rfl) rfl (by kernel_rfl) (by kernel_rfl) (by kernel_rfl) (fun Hq hq => Y.move rfl rfl) (Wd.g rfl rfl rfl) rfl rfl hqn80 ?_
      refine LH.take 45 (by kernel_rfl) rfl (by kernel_rfl) (by kernel_rfl) (by kernel_rfl) (fun Hq hq => Y.move rfl rfl) (Wd.g rfl rfl rfl) rfl rfl hqn80 ?_
      refine LH.take 46 (by kernel_rfl) rfl (by kernel_rfl) (by kernel_rfl) (by kernel_rfl) (fun Hq hq => Y.owAddr (od.nw hq) (i) rfl Try.runUnderlying31 Try.sizeOf38 rfl rfl (by first | rfl | omega) (by first | omega | (simp; omega) | (simp; done))) (Wd.g rfl rfl rfl) rfl rfl hqn80 ?_
      refine LH.take 47 (by kernel_rfl) rfl (by kernel_rfl) (by kernel_rfl) (by kernel_rfl) (fun Hq hq => Y.fieldAddr ((od.pt (j := i) (by first | omega | (simp; omega) | (simp; done))).nw hq) rfl Try.runUnderlying38 rfl rfl Try.sizeOf3 (by decide) rfl) (Wd.g rfl rfl rfl) rfl rfl hqn80 ?_
      refine LH.take 48 (by kernel_rfl) rfl (by kernel_rfl) (by kernel_rfl) (by kernel_rfl) (fun Hq hq => Y.load1 (((od.pt (j := i) (by first | omega | (simp; omega) | (simp; done))).drop 2).nw hq) rfl Try.isAgg3 rfl) (Wd.g rfl rfl rfl) rfl rfl hqn80 ?_
      refine LH.take 49 (by kernel_rfl) rfl (by kernel_rfl) (by kernel_rfl) (by kernel_rfl) (fun Hq hq => (Y.lss rfl rfl rfl).isF (by omega)) (Wd.g rfl rfl rfl) rfl rfl hqn80 ?_
      refine LH.take 50 (by kernel_rfl) rfl (by kernel_rfl) (by kernel_rfl) (by kernel_rfl) (fun Hq hq => Y.pick_f rfl rfl rfl) (Wd.u rfl) rfl rfl hqn80 ?_
      refine LH.take 51 (by kernel_rfl) rfl (by kernel_rfl) (by kernel_rfl) (by kernel_rfl) (fun Hq hq => Y.move rfl rfl) (Wd.u rfl) rfl rfl hqn80 ?_
      refine LH.take 52 (by kernel_rfl) rfl (by kernel_rfl) (by kernel_rfl) (by kernel_rfl) (fun Hq hq => Y.move rfl rfl) (Wd.g rfl rfl rfl) rfl rfl hqn80 ?_
      refine LH.take 53 (by kernel_rfl) rfl (by kernel_rfl) (by kernel_rfl) (by kernel_rfl) (fun Hq hq => Y.gtr rfl rfl rfl) (Wd.g rfl rfl rfl) rfl rfl hqn80 ?_
      refine LH.take 54 (by kernel_rfl) rfl (by kernel_rfl) (by kernel_rfl) (by kernel_rfl) (fun Hq hq => Y.move rfl rfl) (Wd.g rfl rfl rfl) rfl rfl hqn80 ?_
      refine LH.splitp (d := 94) rfl (fun g94 => ?_) (fun g94 => ?_)
      ·
        refine LH.take 55 (by kernel_rfl) rfl (by kernel_rfl) (by kernel_rfl) (by kernel_rfl) (fun Hq hq => Y.move rfl rfl) (Wd.g rfl rfl rfl) rfl rfl hqn80 ?_
        refine LH.take 56 (by kernel_rfl) rfl (by kernel_rfl) (by kernel_rfl) (by kernel_rfl) (fun Hq hq => Y.move rfl rfl) (Wd.g rfl rfl rfl) rfl rfl hqn80 ?_
        refine LH.take 57 (by kernel_rfl) rfl (by kernel_rfl) (by kernel_rfl) (by kernel_rfl) (fun Hq hq => Y.owAddr (od.nw hq) (i) rfl Try.runUnderlying31 Try.sizeOf38 rfl rfl (by first | rfl | omega) (by first | omega | (simp; omega) | (simp; done))) (Wd.g rfl rfl rfl) rfl rfl hqn80 ?_
        refine LH.take 58 (by kernel_rfl) rfl (by kernel_rfl) (by kernel_rfl) (by kernel_rfl) (fun Hq hq => Y.fieldAddr ((od.pt (j := i) (by first | omega | (simp; omega) | (simp; done))).nw hq) rfl Try.runUnderlying38 rfl rfl Try.sizeOf9 (by decide) rfl) (Wd.g rfl rfl rfl) rfl rfl hqn80 ?_
        refine LH.take 59 (by kernel_rfl) rfl (by kernel_rfl) (by kernel_rfl) (by kernel_rfl) (fun Hq hq => Y.load1 (((od.pt (j := i) (by first | omega | (simp; omega) | (simp; done))).drop 0).nw hq) rfl Try.isAgg9 rfl) (Wd.g rfl rfl rfl) rfl rfl hqn80 ?_
        refine LH.take 60 (by kernel_rfl) rfl (by kernel_rfl) (by kernel_rfl) (by kernel_rfl) (fun Hq hq => Y.move rfl rfl) (Wd.g rfl rfl rfl) rfl rfl hqn80 ?_
        refine LH.take 61 (by kernel_rfl) rfl (by kernel_rfl) (by kernel_rfl) (by kernel_rfl) (fun Hq hq => Y.move rfl rfl) (Wd.g rfl rfl rfl) rfl rfl hqn80 ?_
        refine LH.take 62 (by kernel_rfl) rfl (by kernel_rfl) (by kernel_rfl) (by kernel_rfl) (fun Hq hq => Y.subi rfl rfl rfl (by omega)) (Wd.g rfl rfl rfl) rfl rfl hqn80 ?_
        refine LH.take 63 (by kernel_rfl) rfl (by kernel_rfl) (by kernel_rfl) (by kernel_rfl) (fun Hq hq => Y.owAddr (od.nw hq) (i - 1) rfl Try.runUnderlying31 Try.sizeOf38 rfl rfl (by omega) (by first | omega | (simp; omega) | (simp; done))) (Wd.g rfl rfl rfl) rfl rfl hqn80 ?_
        refine LH.take 64 (by kernel_rfl) rfl (by kernel_rfl) (by kernel_rfl) (by kernel_rfl) (fun Hq hq => Y.fieldAddr ((od.pt (j := i - 1) (by first | omega | (simp; omega) | (simp; done))).nw hq) rfl Try.runUnderlying38 rfl rfl Try.sizeOf9 (by decide) rfl) (Wd.g rfl rfl rfl) rfl rfl hqn80 ?_
        refine LH.take 65 (by kernel_rfl) rfl (by kernel_rfl) (by kernel_rfl) (by kernel_rfl) (fun Hq hq => Y.load1 (((od.pt (j := i - 1) (by first | omega | (simp; omega) | (simp; done))).drop 0).nw hq) rfl Try.isAgg9 rfl) (Wd.g rfl rfl rfl) rfl rfl hqn80 ?_
        refine LH.take 66 (by kernel_rfl) rfl (by kernel_rfl) (by kernel_rfl) (by kernel_rfl) (fun Hq hq => Y.cast (v2 := .bool false) (Y.stleq rfl rfl rfl) (by have h9 := hoN (i - 1) i (by omega) hil (by omega); have h8 : Op.bytesLess out[i].o (out[i - 1]'(by omega)).o = false := (by cases h7 : Op.bytesLess out[i].o (out[i - 1]'(by omega)).o with | false => rfl | true => have h6 := bl_trans h9 h7; rw [bl_refl] at h6; cases h6); rw [h8]; simp [bl_ne h9, Ne.symm (bl_ne h9)])) (Wd.g rfl rfl rfl) rfl rfl hqn80 ?_
        refine LH.take 67 (by kernel_rfl) rfl (by kernel_rfl) (by kernel_rfl) (by kernel_rfl) (fun Hq hq => Y.pick_t rfl rfl rfl) (Wd.g rfl rfl rfl) rfl rfl hqn80 ?_
        refine LH.take 68 (by kernel_rfl) rfl (by kernel_rfl) (by kernel_rfl) (by kernel_rfl) (fun Hq hq => Y.pick_f rfl rfl rfl) (Wd.u rfl) rfl rfl hqn80 ?_
        refine LH.done (by kernel_rfl) ?_
        have hqe := hqn80
        refine hK16 _ _ ?_
        refine CW.cond_f rfl ?_
        refine CW.skip ?_
        refine hK15 _ _ ?_
        refine CW.seq (fun K17 hK17 hE17 => ?_)
        refine CW.region ?_
        refine LR.v (Y.assign rfl rfl) (Wd.u rfl) rfl rfl ?_
        refine LR.nil ?_
        refine hK17 _ _ ?_
        refine CW.block (fun K18 hK18 hX18 hE18 => ?_)
        refine CW.loop (fun (k : (Nat)) => [(0, v13), (1, v15), (5, v19), (6, .int .i64 i), (9, .int .i64 k)])
          (fun (k : (Nat)) (H : Heap) => (k ≤ i) ∧ Nw H80 H)
          (fun (k : (Nat)) => i - k) 0 ⟨rfl, rfl, rfl, rfl, rfl, trivial⟩ ?_ ?_
        ·
          exact ⟨(by omega), Mo.refl _ _⟩
        intro k HL2 hI2 K19 hN19 hE19
        obtain ⟨hk, hlm2⟩ := hI2
        replace ha := ha.nw hlm2
        replace hb := hb.nw hlm2
        replace hx := fun x hx0 => (hx x hx0).nw hlm2
        replace hy := fun x hy0 => (hy x hy0).nw hlm2
        replace oga := oga.nw hlm2
        replace gax := fun x hx_ => (gax x hx_).nw hlm2
        replace ogb := ogb.nw hlm2
        replace gbx := fun x hx_ => (gbx x hx_).nw hlm2
        replace oc := oc.nw hlm2
        replace od := od.nw hlm2
        replace vxy := vxy.nw hlm2
        replace hm0 := hm0.tr hlm2
        replace hlm1 := hlm1.tr hlm2
        have hz69 := hlm2.size
        refine CW.seq (fun K20 hK20 hE20 => ?_)
        refine CW.seq (fun K21 hK21 hE21 => ?_)
        refine CW.region ?_
        refine LR.v (Y.move rfl rfl) (Wd.u rfl) rfl rfl ?_
        refine LR.v (Y.move rfl rfl) (Wd.u rfl) rfl rfl ?_
        refine LR.v (Y.lss rfl rfl rfl) (Wd.u rfl) rfl rfl ?_
        refine LR.nil ?_
        refine hK21 _ _ ?_
        refine CW.condp rfl (fun c111 => ?_) (fun c111 => ?_)
        ·
          refine CW.skip ?_
          refine hK20 _ _ ?_
          refine CW.seq (fun K22 hK22 hE22 => ?_)
          refine CW.block (fun K23 hK23 hX23 hE23 => ?_)
          refine CW.seq (fun K24 hK24 hE24 => ?_)
          refine CW.region_draw rfl (by kernel_rfl) ?_
          refine LR.v (Y.move rfl rfl) (Wd.u rfl) rfl rfl ?_
          refine LR.v (Y.move rfl rfl) (Wd.u rfl) rfl rfl ?_
          refine LR.v (Y.owAddr od (k) rfl Try.runUnderlying31 Try.sizeOf38 rfl rfl (by first | rfl | omega) (by first | omega | (simp; omega) | (simp; done))) (Wd.u rfl) rfl rfl ?_
          refine LR.v (Y.fieldAddr (od.pt (j := k) (by first | omega | (simp; omega) | (simp; done))) rfl Try.runUnderlying38 rfl rfl Try.sizeOf9 (by decide) rfl) (Wd.u rfl) rfl rfl ?_
          refine LR.v (Y.load1 ((od.pt (j := k) (by first | omega | (simp; omega) | (simp; done))).drop 1) rfl Try.isAgg9 rfl) (Wd.u rfl) rfl rfl ?_
          refine LR.v (Y.move rfl rfl) (Wd.u rfl) rfl rfl ?_
          refine LR.v (Y.move rfl rfl) (Wd.u rfl) rfl rfl ?_
          refine LR.v (Y.owAddr od (i) rfl Try.runUnderlying31 Try.sizeOf38 rfl rfl (by first | rfl | omega) (by first | omega | (simp; omega) | (simp; done))) (Wd.u rfl) rfl rfl ?_
          refine LR.v (Y.fieldAddr (od.pt (j := i) (by first | omega | (simp; omega) | (simp; done))) rfl Try.runUnderlying38 rfl rfl Try.sizeOf9 (by decide) rfl) (Wd.u rfl) rfl rfl ?_
          refine LR.v (Y.load1 ((od.pt (j := i) (by first | omega | (simp; omega) | (simp; done))).drop 1) rfl Try.isAgg9 rfl) (Wd.u rfl) rfl rfl ?_
          refine LR.v ((Y.seql rfl rfl rfl).isF (honN k i (by omega) hil (by omega))) (Wd.u rfl) rfl rfl ?_
          refine LR.nil ?_
          refine hK24 _ _ ?_
          refine CW.cond_f rfl ?_
          refine CW.skip ?_
          refine hK23 _ _ ?_
          refine hK22 _ _ ?_
          refine CW.region ?_
          refine LR.v (Y.move rfl rfl) (Wd.u rfl) rfl rfl ?_
          refine LR.v (Y.addi rfl rfl rfl (by omega)) (Wd.u rfl) rfl rfl ?_
          refine LR.v (Y.assign rfl rfl) (Wd.u rfl) rfl rfl ?_
          refine LR.nil ?_
          refine QN.sub (hN19 (k + 1) _ ?_ ?_) ⟨rfl, rfl, rfl, (iv (by omega)), (iv (by omega)), trivial⟩
          · exact ⟨(by omega), hlm2⟩
          · first | omega | (simp only; omega) | (simp; omega)
        ·
          refine CW.exit (hE20 (.exit 2) nofun _ _ (hE19 (.exit 2) nofun _ _ (hX18 _ _ ?_)))
          refine hK13 _ _ ?_
          refine hK12 _ _ ?_
          refine CW.region ?_
          refine LR.v (Y.move rfl rfl) (Wd.u rfl) rfl rfl ?_
          refine LR.v (Y.addi rfl rfl rfl (by omega)) (Wd.u rfl) rfl rfl ?_
          refine LR.v (Y.assign rfl rfl) (Wd.u rfl) rfl rfl ?_
          refine LR.nil ?_
          refine QN.sub (hN9 (i + 1) _ ?_ ?_) ⟨rfl, rfl, rfl, (iv (by omega)), trivial⟩
          · exact ⟨(by omega), hlm1⟩
          · first | omega | (simp only; omega) | (simp; omega)
      ·
        refine LH.gs 55 (by kernel_rfl) rfl (by kernel_rfl) (by kernel_rfl) (by kernel_rfl) rfl rfl rfl rfl rfl rfl hqn80 ?_
        refine LH.gs 56 (by kernel_rfl) rfl (by kernel_rfl) (by kernel_rfl) (by kernel_rfl) rfl rfl rfl rfl rfl rfl hqn80 ?_
        refine LH.gs 57 (by kernel_rfl) rfl (by kernel_rfl) (by kernel_rfl) (by kernel_rfl) rfl rfl rfl rfl rfl rfl hqn80 ?_
        refine LH.gs 58 (by kernel_rfl) rfl (by kernel_rfl) (by kernel_rfl) (by kernel_rfl) rfl rfl rfl rfl rfl rfl hqn80 ?_
        refine LH.gs 59 (by kernel_rfl) rfl (by kernel_rfl) (by kernel_rfl) (by kernel_rfl) rfl rfl rfl rfl rfl rfl hqn80 ?_
        refine LH.gs 60 (by kernel_rfl) rfl (by kernel_rfl) (by kernel_rfl) (by kernel_rfl) rfl rfl rfl rfl rfl rfl hqn80 ?_
        refine LH.gs 61 (by kernel_rfl) rfl (by kernel_rfl) (by kernel_rfl) (by kernel_rfl) rfl rfl rfl rfl rfl rfl hqn80 ?_
        refine LH.gs 62 (by kernel_rfl) rfl (by kernel_rfl) (by kernel_rfl) (by kernel_rfl) rfl rfl rfl rfl rfl rfl hqn80 ?_
        refine LH.gs 63 (by kernel_rfl) rfl (by kernel_rfl) (by kernel_rfl) (by kernel_rfl) rfl rfl rfl rfl rfl rfl hqn80 ?_
        refine LH.gs 64 (by kernel_rfl) rfl (by kernel_rfl) (by kernel_rfl) (by kernel_rfl) rfl rfl rfl rfl rfl rfl hqn80 ?_
        refine LH.gs 65 (by kernel_rfl) rfl (by kernel_rfl) (by kernel_rfl) (by kernel_rfl) rfl rfl rfl rfl rfl rfl hqn80 ?_
        refine LH.gs 66 (by kernel_rfl) rfl (by kernel_rfl) (by kernel_rfl) (by kernel_rfl) rfl rfl rfl rfl rfl rfl hqn80 ?_
        refine LH.take 67 (by kernel_rfl) rfl (by kernel_rfl) (by kernel_rfl) (by kernel_rfl) (fun Hq hq => Y.pick_f rfl rfl rfl) (Wd.g rfl rfl rfl) rfl rfl hqn80 ?_
        refine LH.take 68 (by kernel_rfl) rfl (by kernel_rfl) (by kernel_rfl) (by kernel_rfl) (fun Hq hq => Y.pick_f rfl rfl rfl) (Wd.u rfl) rfl rfl hqn80 ?_
        refine LH.done (by kernel_rfl) ?_
        have hqe := hqn80
        refine hK16 _ _ ?_
        refine CW.cond_f rfl ?_
        refine CW.skip ?_
        refine hK15 _ _ ?_
        refine CW.seq (fun K25 hK25 hE25 => ?_)
        refine CW.region ?_
        refine LR.v (Y.assign rfl rfl) (Wd.u rfl) rfl rfl ?_
        refine LR.nil ?_
        refine hK25 _ _ ?_
        refine CW.block (fun K26 hK26 hX26 hE26 => ?_)
        refine CW.loop (fun (k : (Nat)) => [(0, v13), (1, v15), (5, v19), (6, .int .i64 i), (9, .int .i64 k)])
          (fun (k : (Nat)) (H : Heap) => (k ≤ i) ∧ Nw H80 H)
          (fun (k : (Nat)) => i - k) 0 ⟨rfl, rfl, rfl, rfl, rfl, trivial⟩ ?_ ?_
        ·
          exact ⟨(by omega), Mo.refl _ _⟩
        intro k HL2 hI2 K27 hN27 hE27
        obtain ⟨hk, hlm2⟩ := hI2
        replace ha := ha.nw hlm2
        replace hb := hb.nw hlm2
        replace hx := fun x hx0 => (hx x hx0).nw hlm2
        replace hy := fun x hy0 => (hy x hy0).nw hlm2
        replace oga := oga.nw hlm2
        replace gax := fun x hx_ => (gax x hx_).nw hlm2
        replace ogb := ogb.nw hlm2
        replace gbx := fun x hx_ => (gbx x hx_).nw hlm2
        replace oc := oc.nw hlm2
        replace od := od.nw hlm2
        replace vxy := vxy.nw hlm2
        replace hm0 := hm0.tr hlm2
        replace hlm1 := hlm1.tr hlm2
        have hz70 := hlm2.size
        refine CW.seq (fun K28 hK28 hE28 => ?_)
        refine CW.seq (fun K29 hK29 hE29 => ?_)
        refine CW.region ?_
        refine LR.v (Y.move rfl rfl) (Wd.u rfl) rfl rfl ?_
        refine LR.v (Y.move rfl rfl) (Wd.u rfl) rfl rfl ?_
        refine LR.v (Y.lss rfl rfl rfl) (Wd.u rfl) rfl rfl ?_
        refine LR.nil ?_
        refine hK29 _ _ ?_
        refine CW.condp rfl (fun c111 => ?_) (fun c111 => ?_)
        ·
          refine CW.skip ?_
          refine hK28 _ _ ?_
          refine CW.seq (fun K30 hK30 hE30 => ?_)
          refine CW.block (fun K31 hK31 hX31 hE31 => ?_)
          refine CW.seq (fun K32 hK32 hE32 => ?_)
          refine CW.region_draw rfl (by kernel_rfl) ?_
          refine LR.v (Y.move rfl rfl) (Wd.u rfl) rfl rfl ?_
          refine LR.v (Y.move rfl rfl) (Wd.u rfl) rfl rfl ?_
          refine LR.v (Y.owAddr od (k) rfl Try.runUnderlying31 Try.sizeOf38 rfl rfl (by first | rfl | omega) (by first | omega | (simp; omega) | (simp; done))) (Wd.u rfl) rfl rfl ?_
          refine LR.v (Y.fieldAddr (od.pt (j := k) (by first | omega | (simp; omega) | (simp; done))) rfl Try.runUnderlying38 rfl rfl Try.sizeOf9 (by decide) rfl) (Wd.u rfl) rfl rfl ?_
          refine LR.v (Y.load1 ((od.pt (j := k) (by first | omega | (simp; omega) | (simp; done))).drop 1) rfl Try.isAgg9 rfl) (Wd.u rfl) rfl rfl ?_
          refine LR.v (Y.move rfl rfl) (Wd.u rfl) rfl rfl ?_
          refine LR.v (Y.move rfl rfl) (Wd.u rfl) rfl rfl ?_
          refine LR.v (Y.owAddr od (i) rfl Try.runUnderlying31 Try.sizeOf38 rfl rfl (by first | rfl | omega) (by first | omega | (simp; omega) | (simp; done))) (Wd.u rfl) rfl rfl ?_
          refine LR.v (Y.fieldAddr (od.pt (j := i) (by first | omega | (simp; omega) | (simp; done))) rfl Try.runUnderlying38 rfl rfl Try.sizeOf9 (by decide) rfl) (Wd.u rfl) rfl rfl ?_
          refine LR.v (Y.load1 ((od.pt (j := i) (by first | omega | (simp; omega) | (simp; done))).drop 1) rfl Try.isAgg9 rfl) (Wd.u rfl) rfl rfl ?_
          refine LR.v ((Y.seql rfl rfl rfl).isF (honN k i (by omega) hil (by omega))) (Wd.u rfl) rfl rfl ?_
          refine LR.nil ?_
          refine hK32 _ _ ?_
          refine CW.cond_f rfl ?_
          refine CW.skip ?_
          refine hK31 _ _ ?_
          refine hK30 _ _ ?_
          refine CW.region ?_
          refine LR.v (Y.move rfl rfl) (Wd.u rfl) rfl rfl ?_
          refine LR.v (Y.addi rfl rfl rfl (by omega)) (Wd.u rfl) rfl rfl ?_
          refine LR.v (Y.assign rfl rfl) (Wd.u rfl) rfl rfl ?_
          refine LR.nil ?_
          refine QN.sub (hN27 (k + 1) _ ?_ ?_) ⟨rfl, rfl, rfl, (iv (by omega)), (iv (by omega)), trivial⟩
          · exact ⟨(by omega), hlm2⟩
          · first | omega | (simp only; omega) | (simp; omega)
        ·
          refine CW.exit (hE28 (.exit 2) nofun _ _ (hE27 (.exit 2) nofun _ _ (hX26 _ _ ?_)))
          refine hK13 _ _ ?_
          refine hK12 _ _ ?_
          refine CW.region ?_
          refine LR.v (Y.move rfl rfl) (Wd.u rfl) rfl rfl ?_
          refine LR.v (Y.addi rfl rfl rfl (by omega)) (Wd.u rfl) rfl rfl ?_
          refine LR.v (Y.assign rfl rfl) (Wd.u rfl) rfl rfl ?_
          refine LR.nil ?_
          refine QN.sub (hN9 (i + 1) _ ?_ ?_) ⟨rfl, rfl, rfl, (iv (by omega)), trivial⟩
          · exact ⟨(by omega), hlm1⟩
          · first | omega | (simp only; omega) | (simp; omega)
  ·
    refine CW.exit (hE10 (.exit 0) nofun _ _ (hE9 (.exit 0) nofun _ _ (hX8 _ _ ?_)))
    refine hK6 _ _ ?_
    refine CW.seq (fun K33 hK33 hE33 => ?_)
    refine CW.region ?_
    refine LR.v (Y.move rfl rfl) (Wd.u rfl) rfl rfl ?_
    refine LR.v (Y.move rfl rfl) (Wd.u rfl) rfl rfl ?_
    -- call selvage/selvageref15.Diff
    refine LR.call rfl Try.call14 rfl (Wd.u rfl) rfl rfl (diff_ct v13 v13 ga ga w0 _ oga.rd.any oga.rd.any (fun x h => (gax x h).any) (fun x h => (gax x h).any) (by have h9 := hgga.2.1; omega) (by have h9 := hgga.2.1; omega)) (fun v127 H127 r127 => ?_)
    obtain ⟨vc2_, kc2, rfl, oc2, hkc2, hdl2, hs127⟩ := r127
    have df372 := DF.app (DF.z) (bf_ha.mono hm0.size) hkc2
    have df373 := DF.app (DF.z) (bf_hb.mono hm0.size) hkc2
    have df374 := DF.app (DF.z) (bf_hx.mono hm0.size) hkc2
    have df375 := DF.app (DF.z) (bf_hy.mono hm0.size) hkc2
    have dj376 : Dj koga kc2 := Dj.app (Dj.z) oga.le hkc2
    have df377 := DF.app (DF.z) (bf_gax.mono (by omega)) hkc2
    have dj378 : Dj kogb kc2 := Dj.app (Dj.z) ogb.le hkc2
    have df379 := DF.app (DF.z) (bf_gbx.mono (by omega)) hkc2
    have dj380 : Dj kc kc2 := Dj.app (Dj.z) oc.le hkc2
    have dj381 : Dj kd kc2 := Dj.app (Dj.z) od.le hkc2
    have nx382 : Nx 0 H0.size kc2 := Nx.tr (Nx.refl 0 _) hkc2 hm0.size
    replace ha := ha.nw hs127
    replace hb := hb.nw hs127
    replace hx := fun x hx0 => (hx x hx0).nw hs127
    replace hy := fun x hy0 => (hy x hy0).nw hs127
    replace oga := oga.nw hs127
    replace gax := fun x hx_ => (gax x hx_).nw hs127
    replace ogb := ogb.nw hs127
    replace gbx := fun x hx_ => (gbx x hx_).nw hs127
    replace oc := oc.nw hs127
    replace od := od.nw hs127
    replace hm0 := hm0.tr hs127
    have hz71 := hs127.size
    have hle_oc2 := oc2.le
    -- call selvage/rename.Detect
    refine LR.call rfl Try.call17 rfl (Wd.u rfl) rfl rfl (detect_ct v127 (diffL ga ga) w0 _ oc2.rd.any (fun c hc => (diffL_all (Q := FlR (fun _ => True) _) (zFl_R _) ga ga (fun x h => (gax x h).any) (fun x h => (gax x h).any) c hc).1) (fun c hc => (diffL_all (Q := FlR (fun _ => True) _) (zFl_R _) ga ga (fun x h => (gax x h).any) (fun x h => (gax x h).any) c hc).2) (by have h9 := hgga.2.1; have h8 := hgga.2.1; omega) (diffL_all (Q := fun x => x.p.length ≤ 9223372036854775806 ∧ x.d.length ≤ 1048576) (by decide) ga ga (fun x h => by have h9 := hgga.2.2 x h; omega) (fun x h => by have h9 := hgga.2.2 x h; omega))) (fun v128 H128 r128 => ?_)
    obtain ⟨vd2_, kd2, out2, rfl, od2, hkd2, hdet2, hs128⟩ := r128
    have df383 := DF.app (DF.z) (bf_ha.mono hm0.size) hkd2
    have df384 := DF.app (DF.z) (bf_hb.mono hm0.size) hkd2
    have df385 := DF.app (DF.z) (bf_hx.mono hm0.size) hkd2
    have df386 := DF.app (DF.z) (bf_hy.mono hm0.size) hkd2
    have dj387 : Dj koga kd2 := Dj.app (Dj.z) oga.le hkd2
    have df388 := DF.app (DF.z) (bf_gax.mono (by omega)) hkd2
    have dj389 : Dj kogb kd2 := Dj.app (Dj.z) ogb.le hkd2
    have df390 := DF.app (DF.z) (bf_gbx.mono (by omega)) hkd2
    have dj391 : Dj kc kd2 := Dj.app (Dj.z) oc.le hkd2
    have dj392 : Dj kd kd2 := Dj.app (Dj.z) od.le hkd2
    have dj393 : Dj kc2 kd2 := Dj.app (Dj.z) oc2.le hkd2
    have nx394 : Nx 0 H0.size kd2 := Nx.tr (Nx.refl 0 _) hkd2 hm0.size
    replace ha := ha.nw hs128
    replace hb := hb.nw hs128
    replace hx := fun x hx0 => (hx x hx0).nw hs128
    replace hy := fun x hy0 => (hy x hy0).nw hs128
    replace oga := oga.nw hs128
    replace gax := fun x hx_ => (gax x hx_).nw hs128
    replace ogb := ogb.nw hs128
    replace gbx := fun x hx_ => (gbx x hx_).nw hs128
    replace oc := oc.nw hs128
    replace od := od.nw hs128
    replace oc2 := oc2.nw hs128
    replace hm0 := hm0.tr hs128
    have hz72 := hs128.size
    have hle_od2 := od2.le
    have hout2 := det_same hdet2
    subst hout2
    refine LR.v (Y.len od2.rd rfl Try.runUnderlying31 rfl) (Wd.u rfl) rfl rfl ?_
    refine LR.v ((Y.eql rfl rfl rfl).isT (rfl)) (Wd.u rfl) rfl rfl ?_
    refine LR.v (Y.assign rfl rfl) (Wd.u rfl) rfl rfl ?_
    refine LR.nil ?_
    refine hK33 _ _ ?_
    refine CW.ret (hret .ret (.inr rfl) _ _ _ (res1 rfl rfl) ?_)
    exact ⟨rfl, hm0⟩

end Go.Proofs.Ytclhnkmkejijjaa.RenO
