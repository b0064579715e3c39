/-
  The contract of MergeTexts.
-/
import Derived.Test.YtadgeooceeilpaaMerN
import Derived.Test.YtadgeooceeilpaaMerJ
import Derived.Test.YtadgeooceeilpaaRead
namespace Go.Proofs.Ytadgeooceeilpaa.MerO
open Go.Proofs.Ytadgeooceeilpaa.E Go.RowKit Go.Proofs.Ytadgeooceeilpaa.LinM Go.Proofs.Ytadgeooceeilpaa.LinA Go.Proofs.Ytadgeooceeilpaa.LinC Go.Proofs.Ytadgeooceeilpaa.LinF Go.Proofs.Ytadgeooceeilpaa.LinL Go.Proofs.Ytadgeooceeilpaa.LinN Go.Proofs.Ytadgeooceeilpaa.MerA Go.Proofs.Ytadgeooceeilpaa.MerB Go.Proofs.Ytadgeooceeilpaa.MerC Go.Proofs.Ytadgeooceeilpaa.MerD Go.Proofs.Ytadgeooceeilpaa.MerE Go.Proofs.Ytadgeooceeilpaa.MerF Go.Proofs.Ytadgeooceeilpaa.MerG Go.Proofs.Ytadgeooceeilpaa.MerH Go.Proofs.Ytadgeooceeilpaa.MerI Go.Proofs.Ytadgeooceeilpaa.MerJ Go.Proofs.Ytadgeooceeilpaa.MerL Go.Proofs.Ytadgeooceeilpaa.MerM Go.Proofs.Ytadgeooceeilpaa.MerN
set_option linter.unusedVariables false
set_option linter.unusedSimpArgs false
set_option linter.unusedSectionVars false
set_option maxRecDepth 100000 in
theorem inf32 : Inf Try.prog 32 5 1 1 := ⟨Try.underlying32, _, _, rfl, rfl, rfl, rfl, rfl⟩

open Go.ChangeShapes Go.WideShapes Go.ChangeAt Go.RowKit Go.Deep in
theorem read_chunks {H : Type} {enc : TypeId × Value → H} {P : Program} {W : World} {base : Nat} {sp : Nat → Bool} {held : Bool} {t e es : TypeId} {f0 f1 f2 f3 : Field} {v : Value} {d : DataW H} {p : List MemPlace} (hv : v.cells = #[v]) (ht : P.underlying t = some (.slice e)) (he : P.underlying e = some (.struct #[f0, f1, f2, f3])) (hc : P.cellsOf e = 4)
    (o0 : f0.offset = 0) (o1 : f1.offset = 1) (o2 : f2.offset = 2) (o3 : f3.offset = 3) (c0 : P.cellsOf f0.type = 1) (c1 : P.cellsOf f1.type = 1) (c2 : P.cellsOf f2.type = 1) (c3 : P.cellsOf f3.type = 1) (t0 : P.underlying f0.type = some (.int .i64)) (t1 : P.underlying f1.type = some (.slice es)) (t2 : P.underlying f2.type = some (.slice es)) (t3 : P.underlying f3.type = some (.slice es)) (hs : P.underlying es = some .string) (hcs : P.cellsOf es = 1)
    (h : DataW.Trod enc P W base sp held t v d p) : ∃ l : List Ck, RdT W.heap fK 4 v l ∧ (∀ x ∈ l, CkR (fun _ => True) W.heap x ∧ -9223372036854775808 ≤ x.k ∧ x.k ≤ 9223372036854775807) ∧ (l.map (fun x => ((x.b.map (fun s => s.length + 1)).sum + 1) + ((x.o.map (fun s => s.length + 1)).sum + 1) + ((x.t.map (fun s => s.length + 1)).sum + 1))).sum + 1 ≤ Rows.uptoBulk d := by
  refine read_slice fK 4 (fun x => ((x.b.map (fun s => s.length + 1)).sum + 1) + ((x.o.map (fun s => s.length + 1)).sum + 1) + ((x.t.map (fun s => s.length + 1)).sum + 1)) (fun x => CkR (fun _ => True) W.heap x ∧ -9223372036854775808 ≤ x.k ∧ x.k ≤ 9223372036854775807) hv ht hc fK_len (by omega) (fun n cs' y ps hy hl => ?_) h
  obtain ⟨xs, m, _, hx, _, hxl, hf⟩ := DataW.trod_struct he hy
  match cs', hl, xs, hxl with
  | [u0, u1, u2, u3], _, [y0, y1, y2, y3], _ =>
    have g0 := hf 0 f0 rfl
    have g1 := hf 1 f1 rfl
    have g2 := hf 2 f2 rfl
    have g3 := hf 3 f3 rfl
    rw [o0, c0] at g0
    rw [o1, c1] at g1
    rw [o2, c2] at g2
    rw [o3, c3] at g3
    simp only [List.drop_zero, List.take_succ_cons, List.take_zero, List.drop_succ_cons, List.getElem?_cons_zero, List.getElem?_cons_succ] at g0 g1 g2 g3
    obtain ⟨a, e1, _, w1⟩ := DataW.trod_int t0 g0
    simp only [List.cons.injEq, and_true] at e1
    subst e1
    have row : ∀ (u : Value) (tt : TypeId) (yy : DataW H × List MemPlace), P.underlying tt = some (.slice es) → DataW.trod enc P W base sp held m tt [u] = some yy → ∃ s : SV, u = s.v ∧ ∃ l : List (List UInt8), RdT W.heap fS 1 s.v l ∧ (l.map (fun s => s.length + 1)).sum + 1 ≤ Rows.uptoBulk yy.1 := by
      intro u tt yy htt hh
      have hu : ∃ s : SV, u = s.v := by
        rcases open_slice htt hh with ⟨h1, _⟩ | ⟨a, len, cap, _, _, _, _, h1, _⟩
        · simp only [List.cons.injEq, and_true] at h1; exact ⟨⟨none, 0, 0⟩, h1⟩
        · simp only [List.cons.injEq, and_true] at h1; exact ⟨⟨some a, len, cap⟩, h1⟩
      obtain ⟨s, rfl⟩ := hu
      obtain ⟨l, h1, h2⟩ := read_strs (v := s.v) (d := yy.1) (p := yy.2) rfl htt hs hcs ⟨m, hh⟩
      exact ⟨s, rfl, l, h1, h2⟩
    obtain ⟨s1, rfl, l1, r1, b1⟩ := row u1 _ _ t1 g1
    obtain ⟨s2, rfl, l2, r2, b2⟩ := row u2 _ _ t2 g2
    obtain ⟨s3, rfl, l3, r3, b3⟩ := row u3 _ _ t3 g3
    refine ⟨⟨a, l1, l2, l3, s1, s2, s3⟩, rfl, ⟨⟨r1, r2, r3⟩, i64_of w1⟩, ?_⟩
    simp only [Prod.mk.injEq] at hx
    rw [hx.1]
    simp only [List.map_cons, List.map_nil, Rows.uptoBulk, Rows.uptoBulkAll]
    omega


/-- rows of texts of a size that may be laid -/
def StrsOk (l : LL) : Prop := (∀ s ∈ l, s.length ≤ 1048576) ∧ l.length ≤ 1048576
theorem few_take {l : List Ck} {i : Nat} (h : ∀ x ∈ l.take i, Few x.b ∧ Few x.o ∧ Few x.t) (hi : i < l.length) (h2 : Few l[i].b ∧ Few l[i].o ∧ Few l[i].t) : ∀ x ∈ l.take (i + 1), Few x.b ∧ Few x.o ∧ Few x.t := by
  rw [List.take_succ_eq_append_getElem hi]
  intro x hx
  rcases List.mem_append.1 hx with hx | hx
  · exact h x hx
  · rw [List.mem_singleton] at hx; subst hx; exact h2
theorem few_bd {x : Ck} (h : Few x.b ∧ Few x.o ∧ Few x.t) : BdC x.c := by
  have h1 := (Few.flat h.1).2
  have h2 := (Few.flat h.2.1).2
  have h3 := (Few.flat h.2.2).2
  refine ⟨?_, ?_, ?_⟩ <;> simp only [Ck.c] <;> omega

set_option maxRecDepth 50000 in
set_option maxHeartbeats 16000000 in
theorem mergeTexts_ct (v1 v2 v3 v4 v5 : Value) (a s t : List UInt8) (l : List Ck) (b : List UInt8) (w0 : World) (H0 : Heap)
    (ha : RdT H0 fB 1 v1 a) (hs : RdT H0 fB 1 v2 s) (ht : RdT H0 fB 1 v3 t) (hl : RdT H0 fK 4 v4 l) (hx : ∀ x ∈ l, CkR (fun _ => True) H0 x) (hb : RdT H0 fB 1 v5 b) (hal : a.length ≤ 1048576) (hsl : s.length ≤ 1048576) (htl : t.length ≤ 1048576) (hbl : b.length ≤ 1048576) (hll : l.length ≤ 1048576) (hok : ∀ x ∈ l, StrsOk x.b ∧ StrsOk x.o ∧ StrsOk x.t) :
    Ct Try.prog w0 8 #[v1, v2, v3, v4, v5] H0 (fun r H2 => r = .bool true ∧ Nw H0 H2) := by
  refine Ct.enter (args := [v1, v2, v3, v4, v5]) Try.func8 rfl rfl rfl ?_
  intro Q0 hret
  have hm0 : Nw H0 H0 := Mo.refl _ _
  replace ha := ha.bnd
  have bf_ha := Rd.bf ha
  replace hs := hs.bnd
  have bf_hs := Rd.bf hs
  replace ht := ht.bnd
  have bf_ht := Rd.bf ht
  replace hl := hl.bnd
  have bf_hl := Rd.bf hl
  replace hx := fun x hx_ => (hx x hx_).bnd
  have bf_hx : BF (fun b => True ∧ b < H0.size) H0.size := fun b h => h.2
  replace hb := hb.bnd
  have bf_hb := Rd.bf hb
  refine CW.seq (fun K1 hK1 hE1 => ?_)
  refine CW.region ?_
  refine LR.v (Y.assign rfl rfl) (Wd.u rfl) rfl rfl ?_
  refine LR.nil ?_
  refine hK1 _ _ ?_
  refine CW.seq (fun K2 hK2 hE2 => ?_)
  refine CW.seq (fun K3 hK3 hE3 => ?_)
  refine CW.region ?_
  -- call selvage/selvagelaw14.known
  refine LR.call rfl Try.call10 rfl (Wd.u rfl) rfl rfl (known_ct w0 _) (fun v22 H22 r22 => ?_)
  obtain ⟨rfl, hs22⟩ := r22
  replace ha := ha.nw hs22
  replace hs := hs.nw hs22
  replace ht := ht.nw hs22
  replace hl := hl.nw hs22
  replace hx := fun x hx_ => (hx x hx_).nw hs22
  replace hb := hb.nw hs22
  replace hm0 := hm0.tr hs22
  have hz1 := hs22.size
  refine LR.v (Y.not rfl rfl) (Wd.u rfl) rfl rfl ?_
  refine LR.nil ?_
  refine hK3 _ _ ?_
  refine CW.cond_f rfl ?_
  refine CW.skip ?_
  refine hK2 _ _ ?_
  refine CW.seq (fun K4 hK4 hE4 => ?_)
  refine CW.seq (fun K5 hK5 hE5 => ?_)
  refine CW.region ?_
  refine LR.v (Y.move rfl rfl) (Wd.u rfl) rfl rfl ?_
  -- call selvage/selvagelaw14.short
  refine LR.call rfl Try.call20 rfl (Wd.u rfl) rfl rfl (short_ct _ a w0 _ ha.any hal) (fun v25 H25 r25 => ?_)
  obtain ⟨rfl, hs25⟩ := r25
  replace ha := ha.nw hs25
  replace hs := hs.nw hs25
  replace ht := ht.nw hs25
  replace hl := hl.nw hs25
  replace hx := fun x hx_ => (hx x hx_).nw hs25
  replace hb := hb.nw hs25
  replace hm0 := hm0.tr hs25
  have hz2 := hs25.size
  refine LR.v (Y.notp rfl rfl) (Wd.u rfl) rfl rfl ?_
  refine LR.v (Y.move rfl rfl) (Wd.u rfl) rfl rfl ?_
  refine LR.splitp (d := 27) rfl (fun g27 => ?_) (fun g27 => ?_)
  ·
    refine LR.gs rfl rfl rfl rfl rfl rfl ?_
    refine LR.gs rfl rfl rfl rfl rfl rfl ?_
    refine LR.gs rfl rfl rfl rfl rfl rfl ?_
    refine LR.v (Y.pick_t rfl rfl rfl) (Wd.u rfl) rfl rfl ?_
    refine LR.v (Y.move rfl rfl) (Wd.u rfl) rfl rfl ?_
    refine LR.gs rfl rfl rfl rfl rfl rfl ?_
    refine LR.gs rfl rfl rfl rfl rfl rfl ?_
    refine LR.gs rfl rfl rfl rfl rfl rfl ?_
    refine LR.v (Y.pick_t rfl rfl rfl) (Wd.u rfl) rfl rfl ?_
    refine LR.v (Y.move rfl rfl) (Wd.u rfl) rfl rfl ?_
    refine LR.gs rfl rfl rfl rfl rfl rfl ?_
    refine LR.gs rfl rfl rfl rfl rfl rfl ?_
    refine LR.gs rfl rfl rfl rfl rfl rfl ?_
    refine LR.v (Y.pick_t rfl rfl rfl) (Wd.u rfl) rfl rfl ?_
    refine LR.v (Y.move rfl rfl) (Wd.u rfl) rfl rfl ?_
    refine LR.gs rfl rfl rfl rfl rfl rfl ?_
    refine LR.gs rfl rfl rfl rfl rfl rfl ?_
    refine LR.gs rfl rfl rfl rfl rfl rfl ?_
    refine LR.v (Y.pick_t rfl rfl rfl) (Wd.u rfl) rfl rfl ?_
    refine LR.nil ?_
    refine hK5 _ _ ?_
    refine CW.cond_t rfl ?_
    refine CW.seq (fun K6 hK6 hE6 => ?_)
    refine CW.region ?_
    refine LR.v (Y.assign rfl rfl) (Wd.u rfl) rfl rfl ?_
    refine LR.nil ?_
    refine hK6 _ _ ?_
    refine CW.ret (hE4 .ret nofun _ _ (hret .ret (.inr rfl) _ _ _ (res1 rfl rfl) ?_))
    exact ⟨rfl, hm0⟩
  ·
    refine LR.v (Y.move rfl rfl) (Wd.g rfl rfl rfl) rfl rfl ?_
    -- call selvage/selvagelaw14.short
    refine LR.call rfl Try.call20 rfl (Wd.g rfl rfl rfl) rfl rfl (short_ct _ s w0 _ hs.any hsl) (fun v29 H29 r29 => ?_)
    obtain ⟨rfl, hs29⟩ := r29
    replace ha := ha.nw hs29
    replace hs := hs.nw hs29
    replace ht := ht.nw hs29
    replace hl := hl.nw hs29
    replace hx := fun x hx_ => (hx x hx_).nw hs29
    replace hb := hb.nw hs29
    replace hm0 := hm0.tr hs29
    have hz3 := hs29.size
    refine LR.v (Y.notp rfl rfl) (Wd.g rfl rfl rfl) rfl rfl ?_
    refine LR.v (Y.pick_f rfl rfl rfl) (Wd.u rfl) rfl rfl ?_
    refine LR.v (Y.move rfl rfl) (Wd.u rfl) rfl rfl ?_
    refine LR.splitp (d := 32) rfl (fun g32 => ?_) (fun g32 => ?_)
    ·
      refine LR.gs rfl rfl rfl rfl rfl rfl ?_
      refine LR.gs rfl rfl rfl rfl rfl rfl ?_
      refine LR.gs rfl rfl rfl rfl rfl rfl ?_
      refine LR.v (Y.pick_t rfl rfl rfl) (Wd.u rfl) rfl rfl ?_
      refine LR.v (Y.move rfl rfl) (Wd.u rfl) rfl rfl ?_
      refine LR.gs rfl rfl rfl rfl rfl rfl ?_
      refine LR.gs rfl rfl rfl rfl rfl rfl ?_
      refine LR.gs rfl rfl rfl rfl rfl rfl ?_
      refine LR.v (Y.pick_t rfl rfl rfl) (Wd.u rfl) rfl rfl ?_
      refine LR.v (Y.move rfl rfl) (Wd.u rfl) rfl rfl ?_
      refine LR.gs rfl rfl rfl rfl rfl rfl ?_
      refine LR.gs rfl rfl rfl rfl rfl rfl ?_
      refine LR.gs rfl rfl rfl rfl rfl rfl ?_
      refine LR.v (Y.pick_t rfl rfl rfl) (Wd.u rfl) rfl rfl ?_
      refine LR.nil ?_
      refine hK5 _ _ ?_
      refine CW.cond_t rfl ?_
      refine CW.seq (fun K7 hK7 hE7 => ?_)
      refine CW.region ?_
      refine LR.v (Y.assign rfl rfl) (Wd.u rfl) rfl rfl ?_
      refine LR.nil ?_
      refine hK7 _ _ ?_
      refine CW.ret (hE4 .ret nofun _ _ (hret .ret (.inr rfl) _ _ _ (res1 rfl rfl) ?_))
      exact ⟨rfl, hm0⟩
    ·
      refine LR.v (Y.move rfl rfl) (Wd.g rfl rfl rfl) rfl rfl ?_
      -- call selvage/selvagelaw14.short
      refine LR.call rfl Try.call20 rfl (Wd.g rfl rfl rfl) rfl rfl (short_ct _ t w0 _ ht.any htl) (fun v34 H34 r34 => ?_)
      obtain ⟨rfl, hs34⟩ := r34
      replace ha := ha.nw hs34
      replace hs := hs.nw hs34
      replace ht := ht.nw hs34
      replace hl := hl.nw hs34
      replace hx := fun x hx_ => (hx x hx_).nw hs34
      replace hb := hb.nw hs34
      replace hm0 := hm0.tr hs34
      have hz4 := hs34.size
      refine LR.v (Y.notp rfl rfl) (Wd.g rfl rfl rfl) rfl rfl ?_
      refine LR.v (Y.pick_f rfl rfl rfl) (Wd.u rfl) rfl rfl ?_
      refine LR.v (Y.move rfl rfl) (Wd.u rfl) rfl rfl ?_
      refine LR.splitp (d := 37) rfl (fun g37 => ?_) (fun g37 => ?_)
      ·
        refine LR.gs rfl rfl rfl rfl rfl rfl ?_
        refine LR.gs rfl rfl rfl rfl rfl rfl ?_
        refine LR.gs rfl rfl rfl rfl rfl rfl ?_
        refine LR.v (Y.pick_t rfl rfl rfl) (Wd.u rfl) rfl rfl ?_
        refine LR.v (Y.move rfl rfl) (Wd.u rfl) rfl rfl ?_
        refine LR.gs rfl rfl rfl rfl rfl rfl ?_
        refine LR.gs rfl rfl rfl rfl rfl rfl ?_
        refine LR.gs rfl rfl rfl rfl rfl rfl ?_
        refine LR.v (Y.pick_t rfl rfl rfl) (Wd.u rfl) rfl rfl ?_
        refine LR.nil ?_
        refine hK5 _ _ ?_
        refine CW.cond_t rfl ?_
        refine CW.seq (fun K8 hK8 hE8 => ?_)
        refine CW.region ?_
        refine LR.v (Y.assign rfl rfl) (Wd.u rfl) rfl rfl ?_
        refine LR.nil ?_
        refine hK8 _ _ ?_
        refine CW.ret (hE4 .ret nofun _ _ (hret .ret (.inr rfl) _ _ _ (res1 rfl rfl) ?_))
        exact ⟨rfl, hm0⟩
      ·
        refine LR.v (Y.move rfl rfl) (Wd.g rfl rfl rfl) rfl rfl ?_
        -- call selvage/selvagelaw14.short
        refine LR.call rfl Try.call20 rfl (Wd.g rfl rfl rfl) rfl rfl (short_ct _ b w0 _ hb.any hbl) (fun v39 H39 r39 => ?_)
        obtain ⟨rfl, hs39⟩ := r39
        replace ha := ha.nw hs39
        replace hs := hs.nw hs39
        replace ht := ht.nw hs39
        replace hl := hl.nw hs39
        replace hx := fun x hx_ => (hx x hx_).nw hs39
        replace hb := hb.nw hs39
        replace hm0 := hm0.tr hs39
        have hz5 := hs39.size
        refine LR.v (Y.notp rfl rfl) (Wd.g rfl rfl rfl) rfl rfl ?_
        refine LR.v (Y.pick_f rfl rfl rfl) (Wd.u rfl) rfl rfl ?_
        refine LR.v (Y.move rfl rfl) (Wd.u rfl) rfl rfl ?_
        refine LR.splitp (d := 42) rfl (fun g42 => ?_) (fun g42 => ?_)
        ·
          refine LR.gs rfl rfl rfl rfl rfl rfl ?_
          refine LR.gs rfl rfl rfl rfl rfl rfl ?_
          refine LR.gs rfl rfl rfl rfl rfl rfl ?_
          refine LR.v (Y.pick_t rfl rfl rfl) (Wd.u rfl) rfl rfl ?_
          refine LR.nil ?_
          refine hK5 _ _ ?_
          refine CW.cond_t rfl ?_
          refine CW.seq (fun K9 hK9 hE9 => ?_)
          refine CW.region ?_
          refine LR.v (Y.assign rfl rfl) (Wd.u rfl) rfl rfl ?_
          refine LR.nil ?_
          refine hK9 _ _ ?_
          refine CW.ret (hE4 .ret nofun _ _ (hret .ret (.inr rfl) _ _ _ (res1 rfl rfl) ?_))
          exact ⟨rfl, hm0⟩
        ·
          refine LR.v (Y.move rfl rfl) (Wd.g rfl rfl rfl) rfl rfl ?_
          refine LR.v (Y.len hl rfl Try.runUnderlying25 rfl) (Wd.g rfl rfl rfl) rfl rfl ?_
          refine LR.v (Y.gtr rfl rfl rfl) (Wd.g rfl rfl rfl) rfl rfl ?_
          refine LR.v (Y.pick_f rfl rfl rfl) (Wd.u rfl) rfl rfl ?_
          refine LR.nil ?_
          refine hK5 _ _ ?_
          refine CW.condp rfl (fun c46 => ?_) (fun c46 => ?_)
          ·
            refine CW.seq (fun K10 hK10 hE10 => ?_)
            refine CW.region ?_
            refine LR.v (Y.assign rfl rfl) (Wd.u rfl) rfl rfl ?_
            refine LR.nil ?_
            refine hK10 _ _ ?_
            refine CW.ret (hE4 .ret nofun _ _ (hret .ret (.inr rfl) _ _ _ (res1 rfl rfl) ?_))
            exact ⟨rfl, hm0⟩
          ·
            obtain ⟨a1, a2⟩ := short_bd (by first | assumption | (apply Decidable.not_not.1; assumption) : Short a)
            obtain ⟨s1, s2⟩ := short_bd (by first | assumption | (apply Decidable.not_not.1; assumption) : Short s)
            obtain ⟨t1, t2⟩ := short_bd (by first | assumption | (apply Decidable.not_not.1; assumption) : Short t)
            have hl30 : l.length ≤ 30 := by omega
            refine CW.skip ?_
            refine hK4 _ _ ?_
            refine CW.seq (fun K11 hK11 hE11 => ?_)
            refine CW.seq (fun K12 hK12 hE12 => ?_)
            refine CW.region ?_
            refine LR.v (Y.assign rfl rfl) (Wd.u rfl) rfl rfl ?_
            refine LR.nil ?_
            refine hK12 _ _ ?_
            refine CW.block (fun K13 hK13 hX13 hE13 => ?_)
            refine CW.loop (fun (i : (Nat)) => [(0, v1), (1, v2), (2, v3), (3, v4), (4, v5), (11, .int .i64 i)])
              (fun (i : (Nat)) (H : Heap) => (i ≤ l.length) ∧ (∀ x ∈ l.take i, Few x.b ∧ Few x.o ∧ Few x.t) ∧ Nw H39 H)
              (fun (i : (Nat)) => l.length - i) 0 ⟨rfl, rfl, rfl, rfl, rfl, rfl, trivial⟩ ?_ ?_
            ·
              exact ⟨(by omega), (fun x e => by simp at e), Mo.refl _ _⟩
            intro i HL1 hI1 K14 hN14 hE14
            obtain ⟨hi, hfw, hlm1⟩ := hI1
            replace ha := ha.nw hlm1
            replace hs := hs.nw hlm1
            replace ht := ht.nw hlm1
            replace hl := hl.nw hlm1
            replace hx := fun x hx_ => (hx x hx_).nw hlm1
            replace hb := hb.nw hlm1
            replace hm0 := hm0.tr hlm1
            have hz6 := hlm1.size
            refine CW.seq (fun K15 hK15 hE15 => ?_)
            refine CW.seq (fun K16 hK16 hE16 => ?_)
            refine CW.region ?_
            refine LR.v (Y.move rfl rfl) (Wd.u rfl) rfl rfl ?_
            refine LR.v (Y.move rfl rfl) (Wd.u rfl) rfl rfl ?_
            refine LR.v (Y.len hl rfl Try.runUnderlying25 rfl) (Wd.u rfl) rfl rfl ?_
            refine LR.v (Y.lss rfl rfl rfl) (Wd.u rfl) rfl rfl ?_
            refine LR.nil ?_
            refine hK16 _ _ ?_
            refine CW.condp rfl (fun c50 => ?_) (fun c50 => ?_)
            ·
              refine CW.skip ?_
              refine hK15 _ _ ?_
              refine CW.seq (fun K17 hK17 hE17 => ?_)
              refine CW.block (fun K18 hK18 hX18 hE18 => ?_)
              refine CW.seq (fun K19 hK19 hE19 => ?_)
              refine CW.region_tail 15 rfl (by kernel_rfl) (fun T8 hT8 => ?_)
              refine LR.v (Y.move rfl rfl) (Wd.u rfl) rfl rfl ?_
              refine LR.v (Y.move rfl rfl) (Wd.u rfl) rfl rfl ?_
              refine LR.e (g := fun ad => .pointer (some ad)) (Y.indexAddrF hl (i) rfl Try.runUnderlying25 Try.sizeOf42 rfl rfl (by first | rfl | omega) (by first | omega | (simp; omega) | (simp; done))) (Wd.u rfl) rfl rfl (fun ad55 pt55 => ?_)
              have bf_pt55 := bf_hl
              refine LR.v (Y.fieldAddr pt55.pt rfl Try.runUnderlying42 rfl rfl Try.sizeOf22 (by decide) rfl) (Wd.u rfl) rfl rfl ?_
              refine LR.v (Y.load1 (pt55.pt.drop 1) rfl Try.isAgg22 rfl) (Wd.u rfl) rfl rfl ?_
              refine LR.v (Y.move rfl rfl) (Wd.u rfl) rfl rfl ?_
              refine LR.v (Y.move rfl rfl) (Wd.u rfl) rfl rfl ?_
              refine LR.e (g := fun ad => .pointer (some ad)) (Y.indexAddrF hl (i) rfl Try.runUnderlying25 Try.sizeOf42 rfl rfl (by first | rfl | omega) (by first | omega | (simp; omega) | (simp; done))) (Wd.u rfl) rfl rfl (fun ad60 pt60 => ?_)
              have bf_pt60 := bf_hl
              refine LR.v (Y.fieldAddr pt60.pt rfl Try.runUnderlying42 rfl rfl Try.sizeOf22 (by decide) rfl) (Wd.u rfl) rfl rfl ?_
              refine LR.v (Y.load1 (pt60.pt.drop 2) rfl Try.isAgg22 rfl) (Wd.u rfl) rfl rfl ?_
              refine LR.v (Y.move rfl rfl) (Wd.u rfl) rfl rfl ?_
              refine LR.v (Y.move rfl rfl) (Wd.u rfl) rfl rfl ?_
              refine LR.e (g := fun ad => .pointer (some ad)) (Y.indexAddrF hl (i) rfl Try.runUnderlying25 Try.sizeOf42 rfl rfl (by first | rfl | omega) (by first | omega | (simp; omega) | (simp; done))) (Wd.u rfl) rfl rfl (fun ad65 pt65 => ?_)
              have bf_pt65 := bf_hl
              refine LR.v (Y.fieldAddr pt65.pt rfl Try.runUnderlying42 rfl rfl Try.sizeOf22 (by decide) rfl) (Wd.u rfl) rfl rfl ?_
              refine LR.v (Y.load1 (pt65.pt.drop 3) rfl Try.isAgg22 rfl) (Wd.u rfl) rfl rfl ?_
              refine LR.nil (hT8 _ ?_)
              -- call selvage/selvagelaw14.few
              refine LR.call rfl Try.call11 rfl (Wd.u rfl) rfl rfl (few_ct3 _ _ _ l[i].b l[i].o l[i].t w0 _ (hx l[i] (List.getElem_mem (by omega))).b.any (hx l[i] (List.getElem_mem (by omega))).o.any (hx l[i] (List.getElem_mem (by omega))).t.any (hok l[i] (List.getElem_mem (by omega))).1 (hok l[i] (List.getElem_mem (by omega))).2.1 (hok l[i] (List.getElem_mem (by omega))).2.2) (fun v68 H68 r68 => ?_)
              obtain ⟨rfl, hs68⟩ := r68
              replace ha := ha.nw hs68
              replace hs := hs.nw hs68
              replace ht := ht.nw hs68
              replace hl := hl.nw hs68
              replace hx := fun x hx_ => (hx x hx_).nw hs68
              replace hb := hb.nw hs68
              replace pt55 := pt55.nw hs68
              replace pt60 := pt60.nw hs68
              replace pt65 := pt65.nw hs68
              replace hm0 := hm0.tr hs68
              replace hlm1 := hlm1.tr hs68
              have hz7 := hs68.size
              refine LR.v (Y.notp rfl rfl) (Wd.u rfl) rfl rfl ?_
              refine LR.nil ?_
              refine hK19 _ _ ?_
              refine CW.condp rfl (fun c69 => ?_) (fun c69 => ?_)
              ·
                refine CW.seq (fun K20 hK20 hE20 => ?_)
                refine CW.region ?_
                refine LR.v (Y.assign rfl rfl) (Wd.u rfl) rfl rfl ?_
                refine LR.nil ?_
                refine hK20 _ _ ?_
                refine CW.ret (hE18 .ret nofun (by simp) _ _ (hE17 .ret nofun _ _ (hE14 .ret nofun _ _ (hE13 .ret nofun (by simp) _ _ (hE11 .ret nofun _ _ (hret .ret (.inr rfl) _ _ _ (res1 rfl rfl) ?_))))))
                exact ⟨rfl, hm0⟩
              ·
                refine CW.skip ?_
                refine hK18 _ _ ?_
                refine hK17 _ _ ?_
                refine CW.region ?_
                refine LR.v (Y.move rfl rfl) (Wd.u rfl) rfl rfl ?_
                refine LR.v (Y.addi rfl rfl rfl (by omega)) (Wd.u rfl) rfl rfl ?_
                refine LR.v (Y.assign rfl rfl) (Wd.u rfl) rfl rfl ?_
                refine LR.nil ?_
                refine QN.sub (hN14 (i + 1) _ ?_ ?_) ⟨rfl, rfl, rfl, rfl, rfl, (iv (by omega)), trivial⟩
                · exact ⟨(by omega), few_take hfw (by omega) (Decidable.not_not.1 c69), hlm1⟩
                · first | omega | (simp only; omega) | (simp; omega)
            ·
              obtain rfl : i = l.length := by omega
              rw [List.take_length] at hfw
              have hbd : ∀ x ∈ l, BdC x.c := fun x e => few_bd (hfw x e)
              refine CW.exit (hE15 (.exit 0) nofun _ _ (hE14 (.exit 0) nofun _ _ (hX13 _ _ ?_)))
              refine hK11 _ _ ?_
              refine CW.seq (fun K21 hK21 hE21 => ?_)
              refine CW.region ?_
              refine LR.z (Z.litw _ (([] : List UInt8)) rfl inf32 rfl rfl rfl (by decide) (by decide) fB_len fB_one (rfl)) (Wd.u rfl) rfl rfl (fun v71 H71 r71 => ?_)
              obtain ⟨owa, hs71, ob71, hH71⟩ := r71
              have hzs71 : H71.size = HL1.size + 1 := by rw [hH71]; simp
              have df1 := (DF.new (bf_ha.mono hm0.size) : DF _ (HL1.size + 1))
              have df2 := (DF.new (bf_hs.mono hm0.size) : DF _ (HL1.size + 1))
              have df3 := (DF.new (bf_ht.mono hm0.size) : DF _ (HL1.size + 1))
              have df4 := (DF.new (bf_hl.mono hm0.size) : DF _ (HL1.size + 1))
              have df5 := (DF.new (bf_hx.mono hm0.size) : DF _ (HL1.size + 1))
              have df6 := (DF.new (bf_hb.mono hm0.size) : DF _ (HL1.size + 1))
              have nx7 : Nx 0 H0.size (HL1.size + 1) := Nx.new hm0.size
              replace ha := ha.nw hs71
              replace hs := hs.nw hs71
              replace ht := ht.nw hs71
              replace hl := hl.nw hs71
              replace hx := fun x hx_ => (hx x hx_).nw hs71
              replace hb := hb.nw hs71
              replace hm0 := hm0.tr hs71
              have hz8 := hs71.size
              refine LR.v (Y.move rfl rfl) (Wd.u rfl) rfl rfl ?_
              refine LR.z (Z.apnd owa ha rfl inf32 rfl rfl (by simp; omega) (by simp; omega)) (Wd.u rfl) rfl rfl (fun v73 H73 r73 => ?_)
              obtain ⟨k73, owa, hk73, hs73⟩ := r73
              replace hk73 : Nx (HL1.size + 1) H71.size k73 := hk73
              replace hs73 := hs73.md
              have df8 := DF.app (df1) (bf_ha.mono hm0.size) hk73
              have df9 := DF.app (df2) (bf_hs.mono hm0.size) hk73
              have df10 := DF.app (df3) (bf_ht.mono hm0.size) hk73
              have df11 := DF.app (df4) (bf_hl.mono hm0.size) hk73
              have df12 := DF.app (df5) (bf_hx.mono hm0.size) hk73
              have df13 := DF.app (df6) (bf_hb.mono hm0.size) hk73
              have nx14 : Nx 0 H0.size k73 := Nx.tr (nx7) hk73 hm0.size
              replace ha := ha.upL hs73 (DFL.cons df1 DFL.nil)
              replace hs := hs.upL hs73 (DFL.cons df2 DFL.nil)
              replace ht := ht.upL hs73 (DFL.cons df3 DFL.nil)
              replace hl := hl.upL hs73 (DFL.cons df4 DFL.nil)
              replace hx := fun x hx_ => (hx x hx_).upL hs73 (DFL.cons df5 DFL.nil)
              replace hb := hb.upL hs73 (DFL.cons df6 DFL.nil)
              replace hm0 := (Mo.trL (ks := []) (hm0.mdn []) hs73 (MIL.cons (MI.app MI.z (nx7) (Nat.le_refl _)) MIL.nil)).nil
              have hz9 := hs73.size
              have hle_owa := owa.le
              rw [List.nil_append] at owa
              refine LR.v (Y.move rfl rfl) (Wd.u rfl) rfl rfl ?_
              refine LR.v (Y.move rfl rfl) (Wd.u rfl) rfl rfl ?_
              -- call selvage/merge3.Merge
              refine LR.call rfl Try.call17 rfl (Wd.u rfl) rfl rfl (merge_ct _ _ _ a s t w0 _ owa.rd.any hs.any ht.any a1 s1 t1 a2 s2 t2) (fun v76 H76 r76 => ?_)
              obtain ⟨vom, kom, rfl, om, hk76, hs76⟩ := r76
              have df15 := DF.app (DF.z) (bf_ha.mono hm0.size) hk76
              have df16 := DF.app (DF.z) (bf_hs.mono hm0.size) hk76
              have df17 := DF.app (DF.z) (bf_ht.mono hm0.size) hk76
              have df18 := DF.app (DF.z) (bf_hl.mono hm0.size) hk76
              have df19 := DF.app (DF.z) (bf_hx.mono hm0.size) hk76
              have df20 := DF.app (DF.z) (bf_hb.mono hm0.size) hk76
              have dj21 : Dj k73 kom := Dj.app (Dj.z) owa.le hk76
              have nx22 : Nx 0 H0.size kom := Nx.tr (Nx.refl 0 _) hk76 hm0.size
              replace ha := ha.nw hs76
              replace hs := hs.nw hs76
              replace ht := ht.nw hs76
              replace hl := hl.nw hs76
              replace hx := fun x hx_ => (hx x hx_).nw hs76
              replace hb := hb.nw hs76
              replace owa := owa.nw hs76
              replace hm0 := hm0.tr hs76
              have hz10 := hs76.size
              have hle_om := om.le
              refine LR.v (Y.move rfl rfl) (Wd.u rfl) rfl rfl ?_
              refine LR.v (Y.extract rfl rfl rfl) (Wd.u rfl) rfl rfl ?_
              refine LR.v (Y.extract rfl rfl rfl) (Wd.u rfl) rfl rfl ?_
              refine LR.v (Y.extract rfl rfl rfl) (Wd.u rfl) rfl rfl ?_
              refine LR.v (Y.assign rfl rfl) (Wd.u rfl) rfl rfl ?_
              refine LR.v (Y.assign rfl rfl) (Wd.u rfl) rfl rfl ?_
              refine LR.v (Y.assign rfl rfl) (Wd.u rfl) rfl rfl ?_
              refine LR.nil ?_
              refine hK21 _ _ ?_
              refine CW.seq (fun K22 hK22 hE22 => ?_)
              refine CW.region ?_
              refine LR.v (Y.move rfl rfl) (Wd.u rfl) rfl rfl ?_
              refine LR.v (Y.move rfl rfl) (Wd.u rfl) rfl rfl ?_
              refine LR.v (Y.move rfl rfl) (Wd.u rfl) rfl rfl ?_
              -- call selvage/selvageref14.Merge
              refine LR.call rfl Try.call23 rfl (Wd.u rfl) rfl rfl (rmerge_ct _ _ _ a s t w0 _ ha.any hs.any ht.any a1 s1 t1 a2 s2 t2) (fun v84 H84 r84 => ?_)
              obtain ⟨von, kon, rfl, on, hk84, hs84⟩ := r84
              have df23 := DF.app (DF.z) (bf_ha.mono hm0.size) hk84
              have df24 := DF.app (DF.z) (bf_hs.mono hm0.size) hk84
              have df25 := DF.app (DF.z) (bf_ht.mono hm0.size) hk84
              have df26 := DF.app (DF.z) (bf_hl.mono hm0.size) hk84
              have df27 := DF.app (DF.z) (bf_hx.mono hm0.size) hk84
              have df28 := DF.app (DF.z) (bf_hb.mono hm0.size) hk84
              have dj29 : Dj kom kon := Dj.app (Dj.z) om.le hk84
              have nx30 : Nx 0 H0.size kon := Nx.tr (Nx.refl 0 _) hk84 hm0.size
              replace ha := ha.nw hs84
              replace hs := hs.nw hs84
              replace ht := ht.nw hs84
              replace hl := hl.nw hs84
              replace hx := fun x hx_ => (hx x hx_).nw hs84
              replace hb := hb.nw hs84
              replace om := om.nw hs84
              replace hm0 := hm0.tr hs84
              have hz11 := hs84.size
              have hle_on := on.le
              refine LR.v (Y.move rfl rfl) (Wd.u rfl) rfl rfl ?_
              refine LR.v (Y.extract rfl rfl rfl) (Wd.u rfl) rfl rfl ?_
              refine LR.v (Y.extract rfl rfl rfl) (Wd.u rfl) rfl rfl ?_
              refine LR.v (Y.extract rfl rfl rfl) (Wd.u rfl) rfl rfl ?_
              refine LR.v (Y.assign rfl rfl) (Wd.u rfl) rfl rfl ?_
              refine LR.v (Y.assign rfl rfl) (Wd.u rfl) rfl rfl ?_
              refine LR.v (Y.assign rfl rfl) (Wd.u rfl) rfl rfl ?_
              refine LR.nil ?_
              refine hK22 _ _ ?_
              refine CW.seq (fun K23 hK23 hE23 => ?_)
              refine CW.region ?_
              refine LR.v (Y.move rfl rfl) (Wd.u rfl) rfl rfl ?_
              -- call selvage/merge3.Parse
              refine LR.call rfl Try.call24 rfl (Wd.u rfl) rfl rfl (parse_ct _ b w0 _ hb.any hbl) (fun v90 H90 r90 => ?_)
              obtain ⟨vp, p, ep, rfl, hpp, hrp, hxp, hs90⟩ := r90
              replace ha := ha.nw hs90
              replace hs := hs.nw hs90
              replace ht := ht.nw hs90
              replace hl := hl.nw hs90
              replace hx := fun x hx_ => (hx x hx_).nw hs90
              replace hb := hb.nw hs90
              replace om := om.nw hs90
              replace on := on.nw hs90
              replace hm0 := hm0.tr hs90
              have hz12 := hs90.size
              replace hrp := hrp.bnd
              have bf_hrp := Rd.bf hrp
              have df31 : DF (fun b => H84.size ≤ b ∧ b < H90.size) kom := DF.above (fun b h => h.1) (by first | exact hle_om | exact hlt_om | omega)
              have df32 : DF (fun b => H84.size ≤ b ∧ b < H90.size) kon := DF.above (fun b h => h.1) (by first | exact hle_on | exact hlt_on | omega)
              replace hxp := fun x hx_ => (hxp x hx_).bnd
              have bf_hxp : BF (fun b => H84.size ≤ b ∧ b < H90.size) H90.size := fun b h => h.2
              have df33 : DF (fun b => H84.size ≤ b ∧ b < H90.size) kom := DF.above (fun b h => h.1) (by first | exact hle_om | exact hlt_om | omega)
              have df34 : DF (fun b => H84.size ≤ b ∧ b < H90.size) kon := DF.above (fun b h => h.1) (by first | exact hle_on | exact hlt_on | omega)
              refine LR.v (Y.move rfl rfl) (Wd.u rfl) rfl rfl ?_
              refine LR.v (Y.extract rfl rfl rfl) (Wd.u rfl) rfl rfl ?_
              refine LR.v (Y.extract rfl rfl rfl) (Wd.u rfl) rfl rfl ?_
              refine LR.v (Y.assign rfl rfl) (Wd.u rfl) rfl rfl ?_
              refine LR.v (Y.assign rfl rfl) (Wd.u rfl) rfl rfl ?_
              refine LR.nil ?_
              refine hK23 _ _ ?_
              refine CW.seq (fun K24 hK24 hE24 => ?_)
              refine CW.region ?_
              refine LR.v (Y.move rfl rfl) (Wd.u rfl) rfl rfl ?_
              -- call selvage/selvageref14.Parse
              refine LR.call rfl Try.call25 rfl (Wd.u rfl) rfl rfl (rparse_ct _ b w0 _ hb.any hbl) (fun v95 H95 r95 => ?_)
              obtain ⟨vq, q, eq, rfl, hpq, hrq, hxq, hs95⟩ := r95
              replace ha := ha.nw hs95
              replace hs := hs.nw hs95
              replace ht := ht.nw hs95
              replace hl := hl.nw hs95
              replace hx := fun x hx_ => (hx x hx_).nw hs95
              replace hb := hb.nw hs95
              replace om := om.nw hs95
              replace on := on.nw hs95
              replace hrp := hrp.nw hs95
              replace hxp := fun x hx_ => (hxp x hx_).nw hs95
              replace hm0 := hm0.tr hs95
              have hz13 := hs95.size
              replace hrq := hrq.bnd
              have bf_hrq := Rd.bf hrq
              have df35 : DF (fun b => H90.size ≤ b ∧ b < H95.size) kom := DF.above (fun b h => h.1) (by first | exact hle_om | exact hlt_om | omega)
              have df36 : DF (fun b => H90.size ≤ b ∧ b < H95.size) kon := DF.above (fun b h => h.1) (by first | exact hle_on | exact hlt_on | omega)
              replace hxq := fun x hx_ => (hxq x hx_).bnd
              have bf_hxq : BF (fun b => H90.size ≤ b ∧ b < H95.size) H95.size := fun b h => h.2
              have df37 : DF (fun b => H90.size ≤ b ∧ b < H95.size) kom := DF.above (fun b h => h.1) (by first | exact hle_om | exact hlt_om | omega)
              have df38 : DF (fun b => H90.size ≤ b ∧ b < H95.size) kon := DF.above (fun b h => h.1) (by first | exact hle_on | exact hlt_on | omega)
              refine LR.v (Y.move rfl rfl) (Wd.u rfl) rfl rfl ?_
              refine LR.v (Y.extract rfl rfl rfl) (Wd.u rfl) rfl rfl ?_
              refine LR.v (Y.extract rfl rfl rfl) (Wd.u rfl) rfl rfl ?_
              obtain ⟨e1, e2⟩ := Prod.mk.inj (hpp.trans hpq.symm)
              refine LR.v (Y.assign rfl rfl) (Wd.u rfl) rfl rfl ?_
              refine LR.v (Y.assign rfl rfl) (Wd.u rfl) rfl rfl ?_
              refine LR.nil ?_
              refine hK24 _ _ ?_
              refine CW.seq (fun K25 hK25 hE25 => ?_)
              refine CW.region_any (fun Hq => Nw H95 Hq) [] rfl ?_
              have hqs := Nw.refl H95
              refine LH.take 0 (by kernel_rfl) rfl (by kernel_rfl) (by kernel_rfl) (by kernel_rfl) (fun Hq hq => Y.move rfl rfl) (Wd.u rfl) rfl rfl hqs ?_
              refine LH.take 1 (by kernel_rfl) rfl (by kernel_rfl) (by kernel_rfl) (by kernel_rfl) (fun Hq hq => Y.bstr (om.rd.nw hq) rfl Try.underlying32 Try.underlying9 Try.underlying5 rfl) (Wd.u rfl) rfl rfl hqs ?_
              refine LH.take 2 (by kernel_rfl) rfl (by kernel_rfl) (by kernel_rfl) (by kernel_rfl) (fun Hq hq => Y.move rfl rfl) (Wd.u rfl) rfl rfl hqs ?_
              refine LH.take 3 (by kernel_rfl) rfl (by kernel_rfl) (by kernel_rfl) (by kernel_rfl) (fun Hq hq => Y.bstr (on.rd.nw hq) rfl Try.underlying32 Try.underlying9 Try.underlying5 rfl) (Wd.u rfl) rfl rfl hqs ?_
              refine LH.take 4 (by kernel_rfl) rfl (by kernel_rfl) (by kernel_rfl) (by kernel_rfl) (fun Hq hq => (Y.seql rfl rfl rfl).isT (rfl)) (Wd.u rfl) rfl rfl hqs ?_
              refine LH.take 5 (by kernel_rfl) rfl (by kernel_rfl) (by kernel_rfl) (by kernel_rfl) (fun Hq hq => Y.move rfl rfl) (Wd.u rfl) rfl rfl hqs ?_
              refine LH.take 6 (by kernel_rfl) rfl (by kernel_rfl) (by kernel_rfl) (by kernel_rfl) (fun Hq hq => Y.move rfl rfl) (Wd.g rfl rfl rfl) rfl rfl hqs ?_
              refine LH.take 7 (by kernel_rfl) rfl (by kernel_rfl) (by kernel_rfl) (by kernel_rfl) (fun Hq hq => Y.move rfl rfl) (Wd.g rfl rfl rfl) rfl rfl hqs ?_
              refine LH.take 8 (by kernel_rfl) rfl (by kernel_rfl) (by kernel_rfl) (by kernel_rfl) (fun Hq hq => (Y.beql rfl Try.underlying4 rfl rfl).isT (rfl)) (Wd.g rfl rfl rfl) rfl rfl hqs ?_
              refine LH.take 9 (by kernel_rfl) rfl (by kernel_rfl) (by kernel_rfl) (by kernel_rfl) (fun Hq hq => Y.pick_t rfl rfl rfl) (Wd.u rfl) rfl rfl hqs ?_
              refine LH.take 10 (by kernel_rfl) rfl (by kernel_rfl) (by kernel_rfl) (by kernel_rfl) (fun Hq hq => Y.move rfl rfl) (Wd.u rfl) rfl rfl hqs ?_
              refine LH.take 11 (by kernel_rfl) rfl (by kernel_rfl) (by kernel_rfl) (by kernel_rfl) (fun Hq hq => Y.move rfl rfl) (Wd.g rfl rfl rfl) rfl rfl hqs ?_
              refine LH.take 12 (by kernel_rfl) rfl (by kernel_rfl) (by kernel_rfl) (by kernel_rfl) (fun Hq hq => Y.move rfl rfl) (Wd.g rfl rfl rfl) rfl rfl hqs ?_
              refine LH.take 13 (by kernel_rfl) rfl (by kernel_rfl) (by kernel_rfl) (by kernel_rfl) (fun Hq hq => (Y.eql rfl rfl rfl).isT (rfl)) (Wd.g rfl rfl rfl) rfl rfl hqs ?_
              refine LH.take 14 (by kernel_rfl) rfl (by kernel_rfl) (by kernel_rfl) (by kernel_rfl) (fun Hq hq => Y.pick_t rfl rfl rfl) (Wd.u rfl) rfl rfl hqs ?_
              refine LH.take 15 (by kernel_rfl) rfl (by kernel_rfl) (by kernel_rfl) (by kernel_rfl) (fun Hq hq => Y.move rfl rfl) (Wd.u rfl) rfl rfl hqs ?_
              refine LH.take 16 (by kernel_rfl) rfl (by kernel_rfl) (by kernel_rfl) (by kernel_rfl) (fun Hq hq => Y.move rfl rfl) (Wd.g rfl rfl rfl) rfl rfl hqs ?_
              refine LH.take 19 (by kernel_rfl) rfl (by kernel_rfl) (by kernel_rfl) (by kernel_rfl) (fun Hq hq => Y.move rfl rfl) (Wd.g rfl rfl rfl) rfl rfl hqs ?_
              refine LH.one (i := 17) (by kernel_rfl) ?_
              -- call selvage/merge3.Render
              refine LO.call rfl rfl Try.call15 rfl (Wd.g rfl rfl rfl) rfl rfl (render_ct _ l w0 _ hl.any (fun x e => (hx x e).any) hbd (by omega)) (fun v115 H115 r115 => ?_)
              obtain ⟨v2115, kr1, rfl, or1, hk115, hs115⟩ := r115
              have df39 := DF.app (DF.z) (bf_ha.mono hm0.size) hk115
              have df40 := DF.app (DF.z) (bf_hs.mono hm0.size) hk115
              have df41 := DF.app (DF.z) (bf_ht.mono hm0.size) hk115
              have df42 := DF.app (DF.z) (bf_hl.mono hm0.size) hk115
              have df43 := DF.app (DF.z) (bf_hx.mono hm0.size) hk115
              have df44 := DF.app (DF.z) (bf_hb.mono hm0.size) hk115
              have dj45 : Dj kom kr1 := Dj.app (Dj.z) om.le hk115
              have dj46 : Dj kon kr1 := Dj.app (Dj.z) on.le hk115
              have df47 := DF.app (DF.z) (bf_hrp.mono (by omega)) hk115
              have df48 := DF.app (DF.z) (bf_hxp.mono (by omega)) hk115
              have df49 := DF.app (DF.z) (bf_hrq.mono (by omega)) hk115
              have df50 := DF.app (DF.z) (bf_hxq.mono (by omega)) hk115
              have nx51 : Nx 0 H0.size kr1 := Nx.tr (Nx.refl 0 _) hk115 hm0.size
              replace ha := ha.nw hs115
              replace hs := hs.nw hs115
              replace ht := ht.nw hs115
              replace hl := hl.nw hs115
              replace hx := fun x hx_ => (hx x hx_).nw hs115
              replace hb := hb.nw hs115
              replace om := om.nw hs115
              replace on := on.nw hs115
              replace hrp := hrp.nw hs115
              replace hxp := fun x hx_ => (hxp x hx_).nw hs115
              replace hrq := hrq.nw hs115
              replace hxq := fun x hx_ => (hxq x hx_).nw hs115
              replace hm0 := hm0.tr hs115
              have hz14 := hs115.size
              have hle_or1 := or1.le
              have hq115 := hqs.tr hs115
              refine ⟨.inr hq115, LH.narrow (SH2 := fun Hq => Nw H115 Hq) (fun Hq hq => hq115.tr hq) ?_⟩
              have hqn115 := Nw.refl H115
              refine LH.take 18 (by kernel_rfl) rfl (by kernel_rfl) (by kernel_rfl) (by kernel_rfl) (fun Hq hq => Y.bstr (or1.rd.nw hq) rfl Try.underlying32 Try.underlying9 Try.underlying5 rfl) (Wd.g rfl rfl rfl) rfl rfl hqn115 ?_
              refine LH.one (i := 20) (by kernel_rfl) ?_
              -- call selvage/selvageref14.Render
              refine LO.call rfl rfl Try.call16 rfl (Wd.g rfl rfl rfl) rfl rfl (rrender_ct _ l w0 _ hl.any (fun x e => (hx x e).any) hbd (by omega)) (fun v118 H118 r118 => ?_)
              obtain ⟨v2118, kr2, rfl, or2, hk118, hs118⟩ := r118
              have df52 := DF.app (DF.z) (bf_ha.mono hm0.size) hk118
              have df53 := DF.app (DF.z) (bf_hs.mono hm0.size) hk118
              have df54 := DF.app (DF.z) (bf_ht.mono hm0.size) hk118
              have df55 := DF.app (DF.z) (bf_hl.mono hm0.size) hk118
              have df56 := DF.app (DF.z) (bf_hx.mono hm0.size) hk118
              have df57 := DF.app (DF.z) (bf_hb.mono hm0.size) hk118
              have dj58 : Dj kom kr2 := Dj.app (Dj.z) om.le hk118
              have dj59 : Dj kon kr2 := Dj.app (Dj.z) on.le hk118
              have df60 := DF.app (DF.z) (bf_hrp.mono (by omega)) hk118
              have df61 := DF.app (DF.z) (bf_hxp.mono (by omega)) hk118
              have df62 := DF.app (DF.z) (bf_hrq.mono (by omega)) hk118
              have df63 := DF.app (DF.z) (bf_hxq.mono (by omega)) hk118
              have dj64 : Dj kr1 kr2 := Dj.app (Dj.z) or1.le hk118
              have nx65 : Nx 0 H0.size kr2 := Nx.tr (Nx.refl 0 _) hk118 hm0.size
              replace ha := ha.nw hs118
              replace hs := hs.nw hs118
              replace ht := ht.nw hs118
              replace hl := hl.nw hs118
              replace hx := fun x hx_ => (hx x hx_).nw hs118
              replace hb := hb.nw hs118
              replace om := om.nw hs118
              replace on := on.nw hs118
              replace hrp := hrp.nw hs118
              replace hxp := fun x hx_ => (hxp x hx_).nw hs118
              replace hrq := hrq.nw hs118
              replace hxq := fun x hx_ => (hxq x hx_).nw hs118
              replace or1 := or1.nw hs118
              replace hm0 := hm0.tr hs118
              have hz15 := hs118.size
              have hle_or2 := or2.le
              have hq118 := hqn115.tr hs118
              refine ⟨.inr hq118, LH.narrow (SH2 := fun Hq => Nw H118 Hq) (fun Hq hq => hq118.tr hq) ?_⟩
              have hqn118 := Nw.refl H118
              refine LH.take 21 (by kernel_rfl) rfl (by kernel_rfl) (by kernel_rfl) (by kernel_rfl) (fun Hq hq => Y.bstr (or2.rd.nw hq) rfl Try.underlying32 Try.underlying9 Try.underlying5 rfl) (Wd.g rfl rfl rfl) rfl rfl hqn118 ?_
              refine LH.take 22 (by kernel_rfl) rfl (by kernel_rfl) (by kernel_rfl) (by kernel_rfl) (fun Hq hq => (Y.seql rfl rfl rfl).isT (rfl)) (Wd.g rfl rfl rfl) rfl rfl hqn118 ?_
              refine LH.take 23 (by kernel_rfl) rfl (by kernel_rfl) (by kernel_rfl) (by kernel_rfl) (fun Hq hq => Y.pick_t rfl rfl rfl) (Wd.u rfl) rfl rfl hqn118 ?_
              refine LH.take 24 (by kernel_rfl) rfl (by kernel_rfl) (by kernel_rfl) (by kernel_rfl) (fun Hq hq => Y.move rfl rfl) (Wd.u rfl) rfl rfl hqn118 ?_
              refine LH.take 25 (by kernel_rfl) rfl (by kernel_rfl) (by kernel_rfl) (by kernel_rfl) (fun Hq hq => Y.move rfl rfl) (Wd.g rfl rfl rfl) rfl rfl hqn118 ?_
              refine LH.take 27 (by kernel_rfl) rfl (by kernel_rfl) (by kernel_rfl) (by kernel_rfl) (fun Hq hq => Y.move rfl rfl) (Wd.g rfl rfl rfl) rfl rfl hqn118 ?_
              refine LH.one (i := 26) (by kernel_rfl) ?_
              -- call selvage/merge3.Marks
              refine LO.call rfl rfl Try.call26 rfl (Wd.g rfl rfl rfl) rfl rfl (marks_ct _ b w0 _ hb.any hbl) (fun v124 H124 r124 => ?_)
              obtain ⟨rfl, hs124⟩ := r124
              replace ha := ha.nw hs124
              replace hs := hs.nw hs124
              replace ht := ht.nw hs124
              replace hl := hl.nw hs124
              replace hx := fun x hx_ => (hx x hx_).nw hs124
              replace hb := hb.nw hs124
              replace om := om.nw hs124
              replace on := on.nw hs124
              replace hrp := hrp.nw hs124
              replace hxp := fun x hx_ => (hxp x hx_).nw hs124
              replace hrq := hrq.nw hs124
              replace hxq := fun x hx_ => (hxq x hx_).nw hs124
              replace or1 := or1.nw hs124
              replace or2 := or2.nw hs124
              replace hm0 := hm0.tr hs124
              have hz16 := hs124.size
              have hq124 := hqn118.tr hs124
              refine ⟨.inr hq124, LH.narrow (SH2 := fun Hq => Nw H124 Hq) (fun Hq hq => hq124.tr hq) ?_⟩
              have hqn124 := Nw.refl H124
              refine LH.one (i := 28) (by kernel_rfl) ?_
              -- call selvage/selvageref14.Marks
              refine LO.call rfl rfl Try.call27 rfl (Wd.g rfl rfl rfl) rfl rfl (rmarks_ct _ b w0 _ hb.any hbl) (fun v126 H126 r126 => ?_)
              obtain ⟨rfl, hs126⟩ := r126
              replace ha := ha.nw hs126
              replace hs := hs.nw hs126
              replace ht := ht.nw hs126
              replace hl := hl.nw hs126
              replace hx := fun x hx_ => (hx x hx_).nw hs126
              replace hb := hb.nw hs126
              replace om := om.nw hs126
              replace on := on.nw hs126
              replace hrp := hrp.nw hs126
              replace hxp := fun x hx_ => (hxp x hx_).nw hs126
              replace hrq := hrq.nw hs126
              replace hxq := fun x hx_ => (hxq x hx_).nw hs126
              replace or1 := or1.nw hs126
              replace or2 := or2.nw hs126
              replace hm0 := hm0.tr hs126
              have hz17 := hs126.size
              have hq126 := hqn124.tr hs126
              refine ⟨.inr hq126, LH.narrow (SH2 := fun Hq => Nw H126 Hq) (fun Hq hq => hq126.tr hq) ?_⟩
              have hqn126 := Nw.refl H126
              refine LH.take 29 (by kernel_rfl) rfl (by kernel_rfl) (by kernel_rfl) (by kernel_rfl) (fun Hq hq => (Y.beql rfl Try.underlying4 rfl rfl).isT (rfl)) (Wd.g rfl rfl rfl) rfl rfl hqn126 ?_
              refine LH.take 30 (by kernel_rfl) rfl (by kernel_rfl) (by kernel_rfl) (by kernel_rfl) (fun Hq hq => Y.pick_t rfl rfl rfl) (Wd.u rfl) rfl rfl hqn126 ?_
              refine LH.take 31 (by kernel_rfl) rfl (by kernel_rfl) (by kernel_rfl) (by kernel_rfl) (fun Hq hq => Y.move rfl rfl) (Wd.u rfl) rfl rfl hqn126 ?_
              refine LH.take 32 (by kernel_rfl) rfl (by kernel_rfl) (by kernel_rfl) (by kernel_rfl) (fun Hq hq => Y.move rfl rfl) (Wd.g rfl rfl rfl) rfl rfl hqn126 ?_
              refine LH.take 33 (by kernel_rfl) rfl (by kernel_rfl) (by kernel_rfl) (by kernel_rfl) (fun Hq hq => Y.move rfl rfl) (Wd.g rfl rfl rfl) rfl rfl hqn126 ?_
              refine LH.one (i := 34) (by kernel_rfl) ?_
              -- call selvage/selvagelaw14.SameChunks
              refine LO.call rfl rfl Try.call14 rfl (Wd.g rfl rfl rfl) rfl rfl (sameT _ _ p q w0 _ hrp.any hrq.any (fun x e => (hxp x e).any) (fun x e => (hxq x e).any) e1) (fun v132 H132 r132 => ?_)
              obtain ⟨rfl, hs132⟩ := r132
              replace ha := ha.nw hs132
              replace hs := hs.nw hs132
              replace ht := ht.nw hs132
              replace hl := hl.nw hs132
              replace hx := fun x hx_ => (hx x hx_).nw hs132
              replace hb := hb.nw hs132
              replace om := om.nw hs132
              replace on := on.nw hs132
              replace hrp := hrp.nw hs132
              replace hxp := fun x hx_ => (hxp x hx_).nw hs132
              replace hrq := hrq.nw hs132
              replace hxq := fun x hx_ => (hxq x hx_).nw hs132
              replace or1 := or1.nw hs132
              replace or2 := or2.nw hs132
              replace hm0 := hm0.tr hs132
              have hz18 := hs132.size
              have hq132 := hqn126.tr hs132
              refine ⟨.inr hq132, LH.narrow (SH2 := fun Hq => Nw H132 Hq) (fun Hq hq => hq132.tr hq) ?_⟩
              have hqn132 := Nw.refl H132
              refine LH.take 35 (by kernel_rfl) rfl (by kernel_rfl) (by kernel_rfl) (by kernel_rfl) (fun Hq hq => Y.pick_t rfl rfl rfl) (Wd.u rfl) rfl rfl hqn132 ?_
              refine LH.take 36 (by kernel_rfl) rfl (by kernel_rfl) (by kernel_rfl) (by kernel_rfl) (fun Hq hq => Y.move rfl rfl) (Wd.u rfl) rfl rfl hqn132 ?_
              refine LH.take 37 (by kernel_rfl) rfl (by kernel_rfl) (by kernel_rfl) (by kernel_rfl) (fun Hq hq => Y.move rfl rfl) (Wd.g rfl rfl rfl) rfl rfl hqn132 ?_
              refine LH.take 38 (by kernel_rfl) rfl (by kernel_rfl) (by kernel_rfl) (by kernel_rfl) (fun Hq hq => Y.move rfl rfl) (Wd.g rfl rfl rfl) rfl rfl hqn132 ?_
              refine LH.take 39 (by kernel_rfl) rfl (by kernel_rfl) (by kernel_rfl) (by kernel_rfl) (fun Hq hq => (Y.eql rfl rfl rfl).isT (e2)) (Wd.g rfl rfl rfl) rfl rfl hqn132 ?_
              refine LH.take 40 (by kernel_rfl) rfl (by kernel_rfl) (by kernel_rfl) (by kernel_rfl) (fun Hq hq => Y.pick_t rfl rfl rfl) (Wd.u rfl) rfl rfl hqn132 ?_
              refine LH.take 41 (by kernel_rfl) rfl (by kernel_rfl) (by kernel_rfl) (by kernel_rfl) (fun Hq hq => Y.assign rfl rfl) (Wd.u rfl) rfl rfl hqn132 ?_
              refine LH.done (by kernel_rfl) ?_
              have hqe := hqn132
              refine hK25 _ _ ?_
              refine CW.ret (hret .ret (.inr rfl) _ _ _ (res1 rfl rfl) ?_)
              exact ⟨rfl, hm0⟩

end Go.Proofs.Ytadgeooceeilpaa.MerO
