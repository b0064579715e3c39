/-
  Of some commits all that stand above others.
-/
import Derived.Test.YtepdhokpfecdnaaGraC
namespace Go.Proofs.Ytepdhokpfecdnaa.GraD
open Go.Proofs.Ytepdhokpfecdnaa.E Go.RowKit Go.Proofs.Ytepdhokpfecdnaa.GraA Go.Proofs.Ytepdhokpfecdnaa.GraB Go.Proofs.Ytepdhokpfecdnaa.GraC
set_option maxRecDepth 20000
set_option linter.unusedVariables false
set_option linter.unusedSimpArgs false
set_option linter.unusedSectionVars false
set_option maxRecDepth 100000 in
theorem inf28 : Inf Try.prog 28 30 32 32 := ⟨Try.underlying28, _, _, rfl, rfl, rfl, rfl, rfl⟩

inductive Up (pa : Ide → List Ide) (i : Ide) : Ide → Prop
  | refl : Up pa i i
  | step {j p : Ide} : Up pa i j → p ∈ pa j → Up pa i p
structure BInv (pa : Ide → List Ide) (l C K row : List Ide) : Prop where
  nd : K.Nodup
  clo : ∀ k ∈ K, ∀ p ∈ pa k, p ∈ K ∨ p ∈ row
  sta : ∀ k ∈ l, k ∈ K ∨ k ∈ row
  up : ∀ k, k ∈ K ∨ k ∈ row → ∃ i ∈ l, Up pa i k
  sub : ∀ k, k ∈ K ∨ k ∈ row → k ∈ C
theorem nodup_le : ∀ {a b : List Ide}, a.Nodup → (∀ x ∈ a, x ∈ b) → a.length ≤ b.length
  | [], b, _, _ => by simp
  | x :: a, b, hn, h => by
    rw [List.nodup_cons] at hn
    have hx := h x List.mem_cons_self
    have h2 : ∀ y ∈ a, y ∈ b.erase x := fun y hy => by
      have hne : y ≠ x := fun e => hn.1 (e ▸ hy)
      exact (List.mem_erase_of_ne hne).2 (h y (List.mem_cons_of_mem _ hy))
    have := nodup_le hn.2 h2
    rw [List.length_erase_of_mem hx] at this
    have hpos := List.length_pos_of_mem hx
    rw [List.length_cons]; omega
section
variable {pa : Ide → List Ide} {l C K r0 : List Ide} {x : Ide}
theorem BInv.start (hl : ∀ k ∈ l, k ∈ C) : BInv pa l C [] l := ⟨List.nodup_nil, by simp, fun k h => .inr h, fun k h => by rcases h with h | h; cases h; exact ⟨k, h, .refl⟩, fun k h => by rcases h with h | h; cases h; exact hl k h⟩
theorem BInv.skip (h : BInv pa l C K (r0 ++ [x])) (hx : x ∈ K) : BInv pa l C K r0 := by
  have mv : ∀ p, p ∈ K ∨ p ∈ r0 ++ [x] → p ∈ K ∨ p ∈ r0 := by
    intro p h3
    rcases h3 with h3 | h3
    · exact .inl h3
    · rcases List.mem_append.1 h3 with h3 | h3
      · exact .inr h3
      · simp only [List.mem_singleton] at h3; subst h3; exact .inl hx
  exact ⟨h.nd, fun k hk p hp => mv p (h.clo k hk p hp), fun k hk => mv k (h.sta k hk), fun k hk => h.up k (hk.imp id (fun q => List.mem_append_left _ q)), fun k hk => h.sub k (hk.imp id (fun q => List.mem_append_left _ q))⟩
theorem BInv.next (h : BInv pa l C K (r0 ++ [x])) (hx : x ∉ K) (hC : ∀ p ∈ pa x, p ∈ C) : BInv pa l C (K ++ [x]) (r0 ++ pa x) := by
  have mv : ∀ k, k ∈ K ∨ k ∈ r0 ++ [x] → k ∈ K ++ [x] ∨ k ∈ r0 ++ pa x := by
    intro k hk
    rcases hk with hk | hk
    · exact .inl (List.mem_append_left _ hk)
    · rcases List.mem_append.1 hk with hk | hk
      · exact .inr (List.mem_append_left _ hk)
      · exact .inl (List.mem_append_right _ hk)
  have hux : ∃ i ∈ l, Up pa i x := h.up x (.inr (by simp))
  have wm : ∀ k, k ∈ K ++ [x] ∨ k ∈ r0 ++ pa x → (k ∈ K ∨ k ∈ r0 ++ [x]) ∨ k ∈ pa x := by
    intro k hk
    simp only [List.mem_append, List.mem_singleton] at hk ⊢
    rcases hk with (h1 | h1) | (h1 | h1)
    · exact .inl (.inl h1)
    · exact .inl (.inr (.inr h1))
    · exact .inl (.inr (.inl h1))
    · exact .inr h1
  refine ⟨?_, fun k hk p hp => ?_, fun k hk => mv k (h.sta k hk), fun k hk => ?_, fun k hk => ?_⟩
  · rw [List.nodup_append]
    exact ⟨h.nd, by simp, fun a ha b hb e => by simp only [List.mem_singleton] at hb; subst hb; subst e; exact hx ha⟩
  · rcases List.mem_append.1 hk with hk | hk
    · exact mv p (h.clo k hk p hp)
    · simp only [List.mem_singleton] at hk; subst hk
      exact .inr (List.mem_append_right _ hp)
  · rcases wm k hk with h1 | h1
    · exact h.up k h1
    · obtain ⟨i, hi, hu⟩ := hux
      exact ⟨i, hi, hu.step h1⟩
  · rcases wm k hk with h1 | h1
    · exact h.sub k h1
    · exact hC k h1
theorem BInv.len (h : BInv pa l C K r0) : K.length ≤ C.length := nodup_le h.nd (fun k hk => h.sub k (.inl hk))
theorem BInv.done (h : BInv pa l C K []) : ∀ k, k ∈ K ↔ ∃ i ∈ l, Up pa i k := by
  intro k
  refine ⟨fun hk => h.up k (.inl hk), fun ⟨i, hi, hu⟩ => ?_⟩
  have key : ∀ k, Up pa i k → k ∈ K := by
    intro k hu
    induction hu with
    | refl => exact (h.sta i hi).resolve_right (by simp)
    | step _ hp ih => exact (h.clo _ ih _ hp).resolve_right (by simp)
  exact key k hu
end
/-- what is asked of commits -/
structure Cok (m : List (Ide × Value)) (pa : Ide → List Ide) : Prop where
  le : m.length ≤ 5000
  clo : ∀ k, ∀ p ∈ pa k, p ∈ m.map (·.1)
  pl : ∀ k, (pa k).length ≤ 1000
theorem cok_of {S : Sou} {st : List Ide} {m : List (Ide × Value)} (hok : S.ok) (h : AllR S.pa st (m.map (·.1)) 0) : Cok m (cpa S.pa (m.map (·.1))) := by
  rcases h with ⟨_, h1, h2, h3, h4, h5⟩ | ⟨h, _⟩ | ⟨h, _⟩
  · refine ⟨by rw [List.length_map] at h5; exact h5, fun k p hp => ?_, fun k => ?_⟩
    · unfold cpa at hp
      split at hp
      · rename_i hk
        obtain ⟨ps, e, hc⟩ := h2 k hk
        rw [e] at hp; exact hc p hp
      · cases hp
    · unfold cpa
      split
      · rename_i hk
        obtain ⟨ps, e, hc⟩ := h2 k hk
        rw [e]; exact Sou.pa_le hok e
      · simp
  · cases h
  · cases h

theorem above_ct (F : Nat → Prop) (vc : Value) (m : List (Ide × Value)) (pa : Ide → List Ide) (v1 : Value) (l : List Ide) (w0 : World) (H0 : Heap)
    (hc : Cm F H0 vc m pa) (bf_hc : BF F H0.size) (hco : Cok m pa) (hl : RdT H0 fA 32 v1 l) (hlC : ∀ k ∈ l, k ∈ m.map (·.1)) (hll : l.length ≤ 10000000) :
    Ct Try.prog w0 28 #[vc, v1] H0 (fun r H2 => ∃ ab : Nat, ∃ mm : List (Ide × Int), r = .map (some ab) ∧ (Mp H2 vA (Value.int .i64) ab mm) ∧ (Nx 0 H0.size (ab + 1)) ∧ (∀ k, k ∈ mm.map (·.1) ↔ ∃ i ∈ l, Up pa i k) ∧ Nw H0 H2) := by
  refine Ct.enter (args := [vc, v1]) Try.func28 rfl rfl rfl ?_
  intro Q0 hret
  have hm0 : Nw H0 H0 := Mo.refl _ _
  replace hl := hl.bnd
  have bf_hl := hl.bf
  refine CW.seq (fun K1 hK1 hE1 => ?_)
  refine CW.region ?_
  refine LR.v (Y.assign rfl rfl) (Wd.u rfl) rfl rfl ?_
  refine LR.nil ?_
  refine hK1 _ _ ?_
  refine CW.seq (fun K2 hK2 hE2 => ?_)
  refine CW.region ?_
  refine LR.z (Z.makeMp vA (Value.int .i64) rfl) (Wd.u rfl) rfl rfl (fun v10 H10 r10 => ?_)
  obtain ⟨rfl, mo, hs10, ob10, hH10⟩ := r10
  have hzs10 : H10.size = H0.size + 1 := by rw [hH10]; simp
  have df1 := (DF.new (bf_hc.mono hm0.size) : DF _ (H0.size + 1))
  have df2 := (DF.new (bf_hl.mono hm0.size) : DF _ (H0.size + 1))
  have nx3 : Nx 0 H0.size (H0.size + 1) := Nx.new hm0.size
  replace hc := hc.nw hs10
  replace hl := hl.nw hs10
  replace hm0 := hm0.tr hs10
  have hz1 := hs10.size
  have hlt_mo := mo.lt
  refine LR.v (Y.assign rfl rfl) (Wd.u rfl) rfl rfl ?_
  refine LR.nil ?_
  refine hK2 _ _ ?_
  refine CW.seq (fun K3 hK3 hE3 => ?_)
  refine CW.region ?_
  refine LR.v (Y.move rfl rfl) (Wd.u rfl) rfl rfl ?_
  -- call slices.Clone[[]selvage/api.Id,selvage/api.Id]
  refine LR.call rfl Try.call37 rfl (Wd.u rfl) rfl rfl (iclone_ct _ l w0 _ hl.any (by omega)) (fun v12 H12 r12 => ?_)
  obtain ⟨s12, k12, rfl, ow, hk12, hs12⟩ := r12
  have df4 := DF.app (DF.z) (bf_hc.mono hm0.size) hk12
  have df5 := DF.app (DF.z) (bf_hl.mono hm0.size) hk12
  have dj6 : Dj (H0.size + 1) k12 := Dj.app (Dj.z) mo.lt hk12
  have nx7 : Nx 0 H0.size k12 := Nx.tr (Nx.refl 0 _) hk12 hm0.size
  replace hc := hc.nw hs12
  replace hl := hl.nw hs12
  replace mo := mo.nw hs12
  replace hm0 := hm0.tr hs12
  have hz2 := hs12.size
  have hle_ow := ow.le
  refine LR.v (Y.assign rfl rfl) (Wd.u rfl) rfl rfl ?_
  refine LR.nil ?_
  refine hK3 _ _ ?_
  refine CW.seq (fun K4 hK4 hE4 => ?_)
  refine CW.block (fun K5 hK5 hX5 hE5 => ?_)
  refine CW.loop (fun (s_ : (List (Ide × Int)) × (SV) × (Nat) × (List Ide)) => match s_ with | (mm, o, kr, row) => [(0, vc), (5, .map (some H0.size)), (6, o.v)])
    (fun (s_ : (List (Ide × Int)) × (SV) × (Nat) × (List Ide)) (H : Heap) => match s_ with | (mm, o, kr, row) => (Mp H vA (Value.int .i64) H0.size mm) ∧ (Ow kr 30 H fA 32 o.v row) ∧ (BInv pa l (m.map (·.1)) (mm.map (·.1)) row) ∧ (row.length ≤ 10000000 + mm.length * 1000) ∧ (Nx k12 H12.size kr) ∧ (Dj (H0.size + 1) kr) ∧ Mo (Ms [(H0.size + 1), k12]) H12 H)
    (fun (s_ : (List (Ide × Int)) × (SV) × (Nat) × (List Ide)) => match s_ with | (mm, o, kr, row) => (5000 - mm.length) * 1001 + row.length) ([], s12, k12, l) ⟨rfl, rfl, rfl, trivial⟩ ?_ ?_
  ·
    exact ⟨mo, ow, BInv.start hlC, by omega, Nx.refl _ _, dj6, Mo.refl _ _⟩
  rintro ⟨mm, o, kr, row⟩ HL1 hI1 K6 hN6 hE6
  obtain ⟨mo, ow, hI, hrl, nxl_ow, dj_mo_ow, hlm1⟩ := hI1
  have df8 := DF.app (df4) (bf_hc.mono hm0.size) nxl_ow
  have df9 := DF.app (df5) (bf_hl.mono hm0.size) nxl_ow
  have nx10 : Nx 0 H0.size kr := Nx.tr (nx7) nxl_ow hm0.size
  replace hc := hc.upL hlm1 (DFL.cons df1 (DFL.cons df4 DFL.nil))
  replace hl := hl.upL hlm1 (DFL.cons df2 (DFL.cons df5 DFL.nil))
  replace hm0 := (Mo.trL (ks := []) (hm0.mdn []) hlm1 (MIL.cons (MI.app MI.z (nx3) (Nat.le_refl _)) (MIL.cons (MI.app MI.z (nx7) (Nat.le_refl _)) MIL.nil))).nil
  have hz3 := hlm1.size
  have hle_ow := ow.le
  have dj11 := dj_mo_ow
  have nx_hlm1_mo := Nx.refl (H0.size + 1) H12.size
  have nx12 := nxl_ow
  have hml := hI.len
  rw [List.length_map, List.length_map] at hml
  have hml2 := hco.le
  refine CW.seq (fun K7 hK7 hE7 => ?_)
  refine CW.seq (fun K8 hK8 hE8 => ?_)
  refine CW.region ?_
  refine LR.v (Y.move rfl rfl) (Wd.u rfl) rfl rfl ?_
  refine LR.v (Y.len ow.rd rfl Try.runUnderlying28 rfl) (Wd.u rfl) rfl rfl ?_
  refine LR.v (Y.gtr rfl rfl rfl) (Wd.u rfl) rfl rfl ?_
  refine LR.nil ?_
  refine hK8 _ _ ?_
  refine CW.condp rfl (fun c15 => ?_) (fun c15 => ?_)
  ·
    obtain ⟨r0, x, rfl⟩ := snoc_of (l := row) (by omega)
    have hrx : (r0 ++ [x]).length = r0.length + 1 := by simp
    refine CW.skip ?_
    refine hK7 _ _ ?_
    refine CW.block (fun K9 hK9 hX9 hE9 => ?_)
    refine CW.seq (fun K10 hK10 hE10 => ?_)
    refine CW.region ?_
    refine LR.v (Y.move rfl rfl) (Wd.u rfl) rfl rfl ?_
    refine LR.v (Y.move rfl rfl) (Wd.u rfl) rfl rfl ?_
    refine LR.v (Y.len ow.rd rfl Try.runUnderlying28 rfl) (Wd.u rfl) rfl rfl ?_
    refine LR.v (Y.cast (v2 := .int .i64 (r0.length : Int)) (Y.subi rfl rfl rfl (by omega)) (ivv (by rw [hrx]; omega))) (Wd.u rfl) rfl rfl ?_
    refine LR.v (Y.owAddr ow (r0.length) rfl Try.runUnderlying28 Try.sizeOf30 rfl rfl (by first | rfl | omega) (by simp)) (Wd.u rfl) rfl rfl ?_
    refine LR.v (Y.cast (v2 := vA x) (Y.loadN (ow.pt (j := r0.length) (by simp)) rfl Try.isAgg30 Try.sizeOf30 (fA_len _) rfl) (by rw [List.getElem_concat_length rfl]; rfl)) (Wd.u rfl) rfl rfl ?_
    refine LR.z (Z.allocv rfl Try.zeroValue30) (Wd.u rfl) rfl rfl (fun v7 H7 r7 => ?_)
    obtain ⟨rfl, vi, hs7, ob7, hH7⟩ := r7
    have hzs7 : H7.size = HL1.size + 1 := by rw [hH7]; simp
    have df13 := (DF.new (bf_hc.mono hm0.size) : DF _ (HL1.size + 1))
    have df14 := (DF.new (bf_hl.mono hm0.size) : DF _ (HL1.size + 1))
    have dj15 : Dj kr (HL1.size + 1) := Dj.new ow.le
    have dj16 : Dj (H0.size + 1) (HL1.size + 1) := Dj.new mo.lt
    have nx17 : Nx 0 H0.size (HL1.size + 1) := Nx.new hm0.size
    have nx18 : Nx 0 H12.size (HL1.size + 1) := Nx.new hlm1.size
    replace hc := hc.nw hs7
    replace hl := hl.nw hs7
    replace ow := ow.nw hs7
    replace mo := mo.nw hs7
    replace hm0 := hm0.tr hs7
    replace hlm1 := hlm1.trN hs7
    have hz4 := hs7.size
    replace vi : Var 30 H7 HL1.size (fA Zid) := vi
    refine LR.s (S.var vi (_) (fA (x)) rfl rfl rfl rfl (fA_one _) Try.sizeOf30 (fA_len _) (by first | decide | simp [fA_len]) ((splice_all2 (by first | exact (fA_len _).symm | rfl | exact (fA_len _).trans (fA_len _).symm)))) (Wd.u rfl) rfl (fun H4_7 r4_7 => ?_)
    obtain ⟨vi, hs4_7⟩ := r4_7
    replace hs4_7 := hs4_7.md1
    replace hc := hc.upL hs4_7 (DFL.cons df13 DFL.nil)
    replace hl := hl.upL hs4_7 (DFL.cons df14 DFL.nil)
    replace ow := ow.upL hs4_7 (DL.cons dj15 DL.nil)
    replace mo := mo.upL hs4_7 (DL.cons dj16 DL.nil)
    replace hm0 := (Mo.trL (ks := []) (hm0.mdn []) hs4_7 (MIL.cons (MI.app MI.z (nx17) (Nat.le_refl _)) MIL.nil)).nil
    replace hlm1 := hlm1.trL hs4_7 (MIL.cons (MI.app MI.z (nx18) (Nat.le_refl _)) MIL.nil)
    have hz5 := hs4_7.size
    refine LR.nil ?_
    refine hK10 _ _ ?_
    refine CW.seq (fun K11 hK11 hE11 => ?_)
    refine CW.region ?_
    refine LR.v (Y.move rfl rfl) (Wd.u rfl) rfl rfl ?_
    refine LR.v (Y.move rfl rfl) (Wd.u rfl) rfl rfl ?_
    refine LR.v (Y.len ow.rd rfl Try.runUnderlying28 rfl) (Wd.u rfl) rfl rfl ?_
    refine LR.v (Y.cast (v2 := .int .i64 (r0.length : Int)) (Y.subi rfl rfl rfl (by omega)) (ivv (by rw [hrx]; omega))) (Wd.u rfl) rfl rfl ?_
    refine LR.e (g := fun v => v) (Y.owFront ow (r0.length) rfl Try.runUnderlying28 Try.sizeOf30 rfl rfl (by first | rfl | omega) (by simp)) (Wd.u rfl) rfl rfl (fun v26 ow => ?_)
    rw [List.take_left] at ow
    obtain ⟨s26, rfl⟩ : ∃ s : SV, v26 = s.v := ⟨toSV v26, ow.sv.symm⟩
    refine LR.v (Y.assign rfl rfl) (Wd.u rfl) rfl rfl ?_
    refine LR.nil ?_
    refine hK11 _ _ ?_
    refine CW.seq (fun K12 hK12 hE12 => ?_)
    refine CW.region ?_
    refine LR.v (Y.move rfl rfl) (Wd.u rfl) rfl rfl ?_
    refine LR.v (Y.loadN vi.pt rfl Try.isAgg30 Try.sizeOf30 (fA_len _) rfl) (Wd.u rfl) rfl rfl ?_
    refine LR.v (Y.lookupOkA mo.mo keyId rfl Try.runUnderlying72 Try.zeroValue3 rfl rfl) (Wd.u rfl) rfl rfl ?_
    refine LR.v (Y.move rfl rfl) (Wd.u rfl) rfl rfl ?_
    refine LR.v (Y.extract rfl rfl rfl) (Wd.u rfl) rfl rfl ?_
    refine LR.v (Y.extract rfl rfl rfl) (Wd.u rfl) rfl rfl ?_
    refine LR.v (Y.assign rfl rfl) (Wd.u rfl) rfl rfl ?_
    refine LR.v (Y.assign rfl rfl) (Wd.u rfl) rfl rfl ?_
    refine LR.nil ?_
    refine hK12 _ _ ?_
    refine CW.seq (fun K13 hK13 hE13 => ?_)
    refine CW.region ?_
    refine LR.v (Y.move rfl rfl) (Wd.u rfl) rfl rfl ?_
    refine LR.v (Y.not rfl rfl) (Wd.u rfl) rfl rfl ?_
    refine LR.nil ?_
    refine hK13 _ _ ?_
    refine CW.cond rfl (fun c34 => ?_) (fun c34 => ?_)
    ·
      have hgs : (mget mm x).isSome = false := by simpa using c34
      have hxk : x ∉ mm.map (·.1) := fun h => by rw [isSome_iff_key.2 h] at hgs; cases hgs
      have hpl := hco.pl x
      refine CW.seq (fun K14 hK14 hE14 => ?_)
      refine CW.region ?_
      refine LR.v (Y.move rfl rfl) (Wd.u rfl) rfl rfl ?_
      refine LR.v (Y.loadN vi.pt rfl Try.isAgg30 Try.sizeOf30 (fA_len _) rfl) (Wd.u rfl) rfl rfl ?_
      refine LR.v (Y.move rfl rfl) (Wd.u rfl) rfl rfl ?_
      refine LR.v (Y.mlen mo.mo rfl Try.runUnderlying72 rfl) (Wd.u rfl) rfl rfl ?_
      refine LR.s (S.putA ((mm.length : Int)) mo keyId rfl Try.runUnderlying72 rfl rfl rfl) (Wd.u rfl) rfl (fun H8_4 r8_4 => ?_)
      obtain ⟨mo, hs8_4⟩ := r8_4
      replace hs8_4 := hs8_4.md1
      replace hc := hc.upL hs8_4 (DFL.cons df1 DFL.nil)
      replace hl := hl.upL hs8_4 (DFL.cons df2 DFL.nil)
      replace ow := ow.upL hs8_4 (DL.cons dj11.symm DL.nil)
      replace vi := vi.upL hs8_4 (DL.cons dj16.symm DL.nil)
      replace hm0 := (Mo.trL (ks := []) (hm0.mdn []) hs8_4 (MIL.cons (MI.app MI.z (nx3) (Nat.le_refl _)) MIL.nil)).nil
      replace hlm1 := hlm1.trL hs8_4 (MIL.cons (MI.app (MI.root (by simp)) (nx_hlm1_mo) (Nat.le_refl _)) MIL.nil)
      have hz6 := hs8_4.size
      rw [mput_new hgs] at mo
      refine LR.nil ?_
      refine hK14 _ _ ?_
      refine CW.region ?_
      refine LR.v (Y.move rfl rfl) (Wd.u rfl) rfl rfl ?_
      refine LR.v (Y.move rfl rfl) (Wd.u rfl) rfl rfl ?_
      refine LR.v (Y.loadN vi.pt rfl Try.isAgg30 Try.sizeOf30 (fA_len _) rfl) (Wd.u rfl) rfl rfl ?_
      refine LR.v (Y.lookupA hc.mo keyId rfl Try.runUnderlying69 Try.zeroValue28 rfl rfl) (Wd.u rfl) rfl rfl ?_
      refine LR.z (Z.apnd ow (hc.row x) rfl inf28 rfl rfl (by first | omega | (simp; omega)) (by first | omega | (simp; omega))) (Wd.u rfl) rfl rfl (fun v43 H43 r43 => ?_)
      obtain ⟨k43, ow43, hk43, hs43⟩ := r43
      replace hk43 : Nx kr H8_4.size k43 := hk43
      replace hs43 := hs43.md
      have df19 := DF.app (df8) (bf_hc.mono hm0.size) hk43
      have df20 := DF.app (df9) (bf_hl.mono hm0.size) hk43
      have dj21 : Dj (H0.size + 1) k43 := Dj.app (dj11) mo.lt hk43
      have dj22 : Dj (HL1.size + 1) k43 := Dj.app (dj15.symm) vi.lt hk43
      have nx23 : Nx 0 H0.size k43 := Nx.tr (nx10) hk43 hm0.size
      have nx24 : Nx k12 H12.size k43 := Nx.tr (nx12) hk43 hlm1.size
      replace hc := hc.upL hs43 (DFL.cons df8 DFL.nil)
      replace hl := hl.upL hs43 (DFL.cons df9 DFL.nil)
      replace mo := mo.upL hs43 (DL.cons dj11 DL.nil)
      replace vi := vi.upL hs43 (DL.cons dj15.symm DL.nil)
      replace hm0 := (Mo.trL (ks := []) (hm0.mdn []) hs43 (MIL.cons (MI.app MI.z (nx10) (Nat.le_refl _)) MIL.nil)).nil
      replace hlm1 := hlm1.trL hs43 (MIL.cons (MI.app (MI.root (by simp)) (nx12) (Nat.le_refl _)) MIL.nil)
      have hz7 := hs43.size
      have hle_ow43 := ow43.le
      obtain ⟨s43, rfl⟩ : ∃ s : SV, v43 = s.v := ⟨toSV v43, ow43.sv.symm⟩
      refine LR.v (Y.assign rfl rfl) (Wd.u rfl) rfl rfl ?_
      refine LR.nil ?_
      refine hK9 _ _ ?_
      have hI2 := hI.next hxk (hco.clo x)
      have hl2 := hI2.len
      rw [List.length_append, List.length_map, List.length_map, List.length_singleton] at hl2
      refine QN.sub (hN6 (mm ++ [(x, (mm.length : Int))], s43, k43, r0 ++ pa x) _ ?_ ?_) ⟨rfl, rfl, rfl, trivial⟩
      · exact ⟨mo, ow43, by rw [List.map_append]; exact hI2, by simp; omega, nx24, dj21, hlm1⟩
      · simp <;> omega
    ·
      refine CW.skip ?_
      refine hK9 _ _ ?_
      refine QN.sub (hN6 (mm, s26, kr, r0) _ ?_ ?_) ⟨rfl, rfl, rfl, trivial⟩
      · exact ⟨mo, ow, hI.skip (isSome_iff_key.1 (by simpa using c34)), by omega, nx12, dj11, hlm1⟩
      · simp <;> omega
  ·
    obtain rfl : row = [] := List.eq_nil_of_length_eq_zero (by omega)
    refine CW.exit (hE7 (.exit 0) nofun _ _ (hE6 (.exit 0) nofun _ _ (hX5 _ _ ?_)))
    refine hK4 _ _ ?_
    refine CW.seq (fun K15 hK15 hE15 => ?_)
    refine CW.region ?_
    refine LR.v (Y.move rfl rfl) (Wd.u rfl) rfl rfl ?_
    refine LR.v (Y.assign rfl rfl) (Wd.u rfl) rfl rfl ?_
    refine LR.nil ?_
    refine hK15 _ _ ?_
    refine CW.ret (hret .ret (.inr rfl) _ _ _ (res1 rfl rfl) ?_)
    exact ⟨H0.size, mm, rfl, mo, .inr (.inr (by omega)), hI.done, hm0⟩

end Go.Proofs.Ytepdhokpfecdnaa.GraD
