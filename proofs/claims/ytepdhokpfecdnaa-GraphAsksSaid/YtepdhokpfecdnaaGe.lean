/-
  Contracts of functions of the program, and plain laws: put together of several texts.
-/
import Derived.Test.YtepdhokpfecdnaaGd
import Derived.WalkKit
import Derived.LaidEql
import Derived.Stop.Asserts
import Derived.RowKitTokens
/-
  The document's graph: a commit's parents; all that stand above some.
-/
namespace Go.Proofs.Ytepdhokpfecdnaa.GraY
open Go.Proofs.Ytepdhokpfecdnaa.E Go.RowKit Go.Proofs.Ytepdhokpfecdnaa.GraA Go.Proofs.Ytepdhokpfecdnaa.GraB Go.Proofs.Ytepdhokpfecdnaa.GraC Go.Proofs.Ytepdhokpfecdnaa.GraD Go.Proofs.Ytepdhokpfecdnaa.GraE Go.Proofs.Ytepdhokpfecdnaa.GraF Go.Proofs.Ytepdhokpfecdnaa.GraG Go.Proofs.Ytepdhokpfecdnaa.GraH Go.Proofs.Ytepdhokpfecdnaa.GraI Go.Proofs.Ytepdhokpfecdnaa.GraJ Go.Proofs.Ytepdhokpfecdnaa.GraK Go.Proofs.Ytepdhokpfecdnaa.GraL Go.Proofs.Ytepdhokpfecdnaa.GraM Go.Proofs.Ytepdhokpfecdnaa.GraN Go.Proofs.Ytepdhokpfecdnaa.GraO Go.Proofs.Ytepdhokpfecdnaa.GraP Go.Proofs.Ytepdhokpfecdnaa.GraX
set_option maxRecDepth 20000
set_option linter.unusedVariables false
set_option linter.unusedSimpArgs false
set_option linter.unusedSectionVars false
set_option maxRecDepth 100000 in
theorem inf28 : Inf Try.prog 28 30 32 32 := ⟨Try.underlying28, _, _, rfl, rfl, rfl, rfl, rfl⟩

/-- all that stand above some, or one that is not told -/
structure UInv (pa : Ide → Option (List Ide)) (st seen wait : List Ide) : Prop where
  ris : Ris seen
  told : ∀ k ∈ seen, ∃ ps, pa k = some ps ∧ ∀ p ∈ ps, p ∈ seen ∨ p ∈ wait
  up : ∀ k, k ∈ seen ∨ k ∈ wait → ∃ i ∈ st, UpO pa i k
  all : ∀ k ∈ st, k ∈ seen ∨ k ∈ wait
def UpsR (pa : Ide → Option (List Ide)) (st seen : List Ide) (e : Nat) : Prop :=
  (e = 0 ∧ Ris seen ∧ (∀ k ∈ seen, (pa k).isSome = true) ∧ ∀ k, k ∈ seen ↔ ∃ i ∈ st, UpO pa i k) ∨ (e = 2 ∧ seen = [] ∧ ∃ k, (∃ i ∈ st, UpO pa i k) ∧ pa k = none)
section
variable {pa : Ide → Option (List Ide)} {st seen wait : List Ide} {x : Ide}
theorem UInv.start (pa : Ide → Option (List Ide)) (st : List Ide) : UInv pa st [] st :=
  ⟨List.Pairwise.nil, fun k h => (by cases h), fun k h => h.elim (fun h => (by cases h)) (fun h => ⟨k, h, .refl⟩), fun k h => .inr h⟩
theorem UInv.skip (h : UInv pa st seen (x :: wait)) (hx : x ∈ seen) : UInv pa st seen wait := by
  have e : ∀ p, p ∈ seen ∨ p ∈ x :: wait → p ∈ seen ∨ p ∈ wait := fun p hp => by
    rcases hp with hp | hp
    · exact .inl hp
    · rcases List.mem_cons.1 hp with rfl | hp
      · exact .inl hx
      · exact .inr hp
  refine ⟨h.ris, fun k hk => ?_, fun k hk => h.up k (hk.imp id (List.mem_cons_of_mem _)), fun k hk => e k (h.all k hk)⟩
  obtain ⟨ps, h1, h2⟩ := h.told k hk
  exact ⟨ps, h1, fun p hp => e p (h2 p hp)⟩
theorem UInv.take (h : UInv pa st seen (x :: wait)) {ps : List Ide} (hp : pa x = some ps) : UInv pa st (withI seen x) (wait ++ ps) := by
  have hu := h.up x (.inr List.mem_cons_self)
  have e : ∀ p, p ∈ seen ∨ p ∈ x :: wait → p ∈ withI seen x ∨ p ∈ wait ++ ps := fun p hp => by
    rcases hp with hp | hp
    · exact .inl ((withI_mem seen).2 (.inr hp))
    · rcases List.mem_cons.1 hp with rfl | hp
      · exact .inl ((withI_mem seen).2 (.inl rfl))
      · exact .inr (List.mem_append_left _ hp)
  refine ⟨withI_ris h.ris, fun k hk => ?_, fun k hk => ?_, fun k hk => e k (h.all k hk)⟩
  · rcases (withI_mem seen).1 hk with rfl | hk
    · exact ⟨ps, hp, fun p h => .inr (List.mem_append_right _ h)⟩
    · obtain ⟨qs, h1, h2⟩ := h.told k hk
      exact ⟨qs, h1, fun p hp => e p (h2 p hp)⟩
  · have hx : ∀ p ∈ ps, ∃ i ∈ st, UpO pa i p := fun p h9 => by
      obtain ⟨i, hi, hu⟩ := hu
      exact ⟨i, hi, .step hu hp h9⟩
    rcases hk with hk | hk
    · rcases (withI_mem seen).1 hk with rfl | hk
      · exact hu
      · exact h.up k (.inl hk)
    · rcases List.mem_append.1 hk with hk | hk
      · exact h.up k (.inr (List.mem_cons_of_mem _ hk))
      · exact hx k hk
theorem UInv.done (h : UInv pa st seen []) : UpsR pa st seen 0 := by
  have key : ∀ i ∈ st, ∀ k, UpO pa i k → k ∈ seen := fun i hi k hu => by
    induction hu with
    | refl => exact (h.all i hi).elim id (fun h => by cases h)
    | step _ hp hm ih =>
      obtain ⟨ps, h1, h2⟩ := h.told _ ih
      rw [hp] at h1
      obtain rfl : _ = ps := Option.some.inj h1
      exact (h2 _ hm).elim id (fun h => by cases h)
  exact .inl ⟨rfl, h.ris, fun k hk => (by obtain ⟨ps, h1, _⟩ := h.told k hk; rw [h1]; rfl), fun k => ⟨fun hk => h.up k (.inl hk), fun ⟨i, hi, hu⟩ => key i hi k hu⟩⟩
theorem UInv.none (h : UInv pa st seen (x :: wait)) (hp : pa x = none) : UpsR pa st [] 2 := .inr ⟨rfl, rfl, x, h.up x (.inr List.mem_cons_self), hp⟩
end
theorem fNd_pt {H : Heap} {ad : Addr} {x : Nd} (h : Pt H ad (fNd x)) : Pt H (ad.add 32) [x.v.v] := by
  have := h.drop 32
  rwa [fNd_drop] at this
/-- a document's graph that is not large -/
structure NdOk (nd : List Nd) : Prop where
  le : nd.length ≤ 1000
  ps : ∀ y ∈ nd, y.ps.length ≤ 4
theorem paR_mem {nd : List Nd} {i : Ide} {ps : List Ide} (h : paR nd i = some ps) : ∃ y ∈ nd, y.i = i ∧ y.ps = ps := by
  unfold paR at h
  rw [Option.map_eq_some_iff] at h
  obtain ⟨y, h1, rfl⟩ := h
  exact ⟨y, List.mem_of_find?_eq_some h1, by simpa using List.find?_some h1, rfl⟩
theorem NdOk.pl {nd : List Nd} (h : NdOk nd) {i : Ide} {ps : List Ide} (hp : paR nd i = some ps) : ps.length ≤ 4 := by
  obtain ⟨y, hy, _, rfl⟩ := paR_mem hp
  exact h.ps y hy
theorem UInv.len {nd : List Nd} {st seen wait : List Ide} (h : UInv (paR nd) st seen wait) : seen.length ≤ nd.length := by
  have := nodup_le (b := nd.map (·.i)) (ris_nodup h.ris) (fun k hk => by
    obtain ⟨ps, h1, _⟩ := h.told k hk
    obtain ⟨y, hy, hi, _⟩ := paR_mem h1
    exact List.mem_map.2 ⟨y, hy, hi⟩)
  simpa using this

theorem rpar_ct (gb : Nat) (nl : SV) (nd : List Nd) (i : Ide) (F : Nat → Prop) (w0 : World) (H0 : Heap)
    (hg : GrR F H0 gb nl nd) (bf_hg : BF F H0.size) :
    Ct Try.prog w0 36 #[.pointer (some ⟨gb, 0, none⟩), vA i] H0 (fun r H2 => ∃ s : SV, ∃ ps : List Ide, ∃ b : Bool, r = .tuple #[s.v, .bool b] ∧ ((b = true ∧ paR nd i = some ps) ∨ (b = false ∧ paR nd i = none ∧ ps = [])) ∧ (Rd F H2 fA 32 s.v ps) ∧ Nw H0 H2) := by
  refine Ct.enter (args := [.pointer (some ⟨gb, 0, none⟩), vA i]) Try.func36 rfl rfl rfl ?_
  intro Q0 hret
  have hm0 : Nw H0 H0 := Mo.refl _ _
  have hnl := hg.l.len
  refine CW.seq (fun K1 hK1 hE1 => ?_)
  refine CW.region ?_
  refine LR.z (Z.boxv rfl rfl) (Wd.u rfl) rfl rfl (fun v3 H3 r3 => ?_)
  obtain ⟨rfl, vi, hs3, ob3, hH3⟩ := r3
  have hzs3 : H3.size = H0.size + 1 := by rw [hH3]; simp
  have df1 := (DF.new (bf_hg.mono hm0.size) : DF _ (H0.size + 1))
  have nx2 : Nx 0 H0.size (H0.size + 1) := Nx.new hm0.size
  replace hg := hg.nw hs3
  replace hm0 := hm0.tr hs3
  have hz1 := hs3.size
  replace vi : Var 30 H3 H0.size (fA i) := vi
  refine LR.v (Y.assign rfl rfl) (Wd.u rfl) rfl rfl ?_
  refine LR.v (Y.assign rfl rfl) (Wd.u rfl) rfl rfl ?_
  refine LR.nil ?_
  refine hK1 _ _ ?_
  refine CW.seq (fun K2 hK2 hE2 => ?_)
  refine CW.seq (fun K3 hK3 hE3 => ?_)
  refine CW.region ?_
  refine LR.v (Y.assign rfl rfl) (Wd.u rfl) rfl rfl ?_
  refine LR.nil ?_
  refine hK3 _ _ ?_
  refine CW.block (fun K4 hK4 hX4 hE4 => ?_)
  refine CW.loop (fun (k : (Nat)) => [(0, .pointer (some ⟨gb, 0, none⟩)), (3, .pointer (some ⟨H0.size, 0, none⟩)), (6, .int .i64 (k : Int))])
    (fun (k : (Nat)) (H : Heap) => (k ≤ nd.length) ∧ (∀ j (h : j < nd.length), j < k → nd[j].i ≠ i) ∧ Nw H3 H)
    (fun (k : (Nat)) => nd.length - k) 0 ⟨rfl, rfl, rfl, trivial⟩ ?_ ?_
  ·
    exact ⟨(by omega), fun j h h2 => by omega, Mo.refl _ _⟩
  intro k HL1 hI1 K5 hN5 hE5
  obtain ⟨hk, hno, hlm1⟩ := hI1
  replace hg := hg.nw hlm1
  replace vi := vi.nw hlm1
  replace hm0 := hm0.tr hlm1
  have hz2 := hlm1.size
  refine CW.seq (fun K6 hK6 hE6 => ?_)
  refine CW.seq (fun K7 hK7 hE7 => ?_)
  refine CW.region ?_
  refine LR.v (Y.move rfl rfl) (Wd.u rfl) rfl rfl ?_
  refine LR.v (Y.move rfl rfl) (Wd.u rfl) rfl rfl ?_
  refine LR.v (Y.nilCheck rfl rfl) (Wd.u rfl) rfl rfl ?_
  refine LR.v (Y.fieldAddr hg.v.pt rfl Try.runUnderlying85 rfl rfl Try.sizeOf83 (by decide) rfl) (Wd.u rfl) rfl rfl ?_
  refine LR.v (Y.load1 (hg.v.pt.drop 0) rfl Try.isAgg83 rfl) (Wd.u rfl) rfl rfl ?_
  refine LR.v (Y.len hg.l rfl Try.runUnderlying83 rfl) (Wd.u rfl) rfl rfl ?_
  refine LR.v (Y.lss rfl rfl rfl) (Wd.u rfl) rfl rfl ?_
  refine LR.nil ?_
  refine hK7 _ _ ?_
  refine CW.condp rfl (fun c13 => ?_) (fun c13 => ?_)
  ·
    have hkl : k < nd.length := by omega
    obtain ⟨y, hy⟩ : ∃ y, y = nd[k] := ⟨_, rfl⟩
    refine CW.skip ?_
    refine hK6 _ _ ?_
    refine CW.seq (fun K8 hK8 hE8 => ?_)
    refine CW.block (fun K9 hK9 hX9 hE9 => ?_)
    refine CW.seq (fun K10 hK10 hE10 => ?_)
    refine CW.region_draw rfl (by kernel_rfl) ?_
    refine LR.v (Y.move rfl rfl) (Wd.u rfl) rfl rfl ?_
    refine LR.v (Y.nilCheck rfl rfl) (Wd.u rfl) rfl rfl ?_
    refine LR.v (Y.fieldAddr hg.v.pt rfl Try.runUnderlying85 rfl rfl Try.sizeOf83 (by decide) rfl) (Wd.u rfl) rfl rfl ?_
    refine LR.v (Y.load1 (hg.v.pt.drop 0) rfl Try.isAgg83 rfl) (Wd.u rfl) rfl rfl ?_
    refine LR.v (Y.move rfl rfl) (Wd.u rfl) rfl rfl ?_
    refine LR.e (g := fun ad => .pointer (some ad)) (Y.indexAddrF hg.l (k) rfl Try.runUnderlying83 Try.sizeOf87 rfl rfl (by first | rfl | omega) (by omega)) (Wd.u rfl) rfl rfl (fun ad21 pt21 => ?_)
    have bf_pt21 := bf_hg
    refine LR.v (Y.fieldAddr pt21.pt rfl Try.runUnderlying87 rfl rfl Try.sizeOf30 (by decide) rfl) (Wd.u rfl) rfl rfl ?_
    refine LR.v (Y.cast (v2 := vA y.i) (Y.loadN ((pt21.pt.drop 0).take 32) rfl Try.isAgg30 Try.sizeOf30 (by simp [fA_len]) rfl) (by rw [fNd_take, hy]; rfl)) (Wd.u rfl) rfl rfl ?_
    refine LR.v (Y.loadN vi.pt rfl Try.isAgg30 Try.sizeOf30 (fA_len _) rfl) (Wd.u rfl) rfl rfl ?_
    refine LR.v (Y.aeql rfl Try.eqGuardType30 (fun w => run_equalIn_id 9998 Try.underlying30 Try.underlying5 Try.sizeOf5 Try.isAgg5 (y.i.2) (i.2) w) rfl rfl) (Wd.u rfl) rfl rfl ?_
    refine LR.nil ?_
    refine hK10 _ _ ?_
    refine CW.condp rfl (fun c25 => ?_) (fun c25 => ?_)
    ·
      refine CW.seq (fun K11 hK11 hE11 => ?_)
      refine CW.region ?_
      refine LR.v (Y.move rfl rfl) (Wd.u rfl) rfl rfl ?_
      refine LR.v (Y.nilCheck rfl rfl) (Wd.u rfl) rfl rfl ?_
      refine LR.v (Y.fieldAddr hg.v.pt rfl Try.runUnderlying85 rfl rfl Try.sizeOf83 (by decide) rfl) (Wd.u rfl) rfl rfl ?_
      refine LR.v (Y.load1 (hg.v.pt.drop 0) rfl Try.isAgg83 rfl) (Wd.u rfl) rfl rfl ?_
      refine LR.v (Y.move rfl rfl) (Wd.u rfl) rfl rfl ?_
      refine LR.e (g := fun ad => .pointer (some ad)) (Y.indexAddrF hg.l (k) rfl Try.runUnderlying83 Try.sizeOf87 rfl rfl (by first | rfl | omega) (by omega)) (Wd.u rfl) rfl rfl (fun ad31 pt31 => ?_)
      have bf_pt31 := bf_hg
      refine LR.v (Y.fieldAddr pt31.pt rfl Try.runUnderlying87 rfl rfl Try.sizeOf28 (by decide) rfl) (Wd.u rfl) rfl rfl ?_
      refine LR.v (Y.load1 (fNd_pt pt31.pt) rfl Try.isAgg28 rfl) (Wd.u rfl) rfl rfl ?_
      refine LR.v (Y.assign rfl rfl) (Wd.u rfl) rfl rfl ?_
      refine LR.v (Y.assign rfl rfl) (Wd.u rfl) rfl rfl ?_
      refine LR.nil ?_
      refine hK11 _ _ ?_
      refine CW.ret (hE9 .ret nofun (by simp) _ _ (hE8 .ret nofun _ _ (hE5 .ret nofun _ _ (hE4 .ret nofun (by simp) _ _ (hE2 .ret nofun _ _ (hret .ret (.inr rfl) _ _ _ (res2 rfl rfl rfl) ?_))))))
      exact ⟨nd[k].v, nd[k].ps, true, rfl, .inl ⟨rfl, paR_some hkl (by rw [← hy]; exact Subtype.ext c25) hno⟩, hg.x _ (List.getElem_mem hkl), hm0⟩
    ·
      refine CW.skip ?_
      refine hK9 _ _ ?_
      refine hK8 _ _ ?_
      refine CW.region ?_
      refine LR.v (Y.move rfl rfl) (Wd.u rfl) rfl rfl ?_
      refine LR.v (Y.addi rfl rfl rfl (by omega)) (Wd.u rfl) rfl rfl ?_
      refine LR.v (Y.assign rfl rfl) (Wd.u rfl) rfl rfl ?_
      refine LR.nil ?_
      refine QN.sub (hN5 (k + 1) _ ?_ ?_) ⟨rfl, rfl, (iv (by omega)), trivial⟩
      · exact ⟨(by omega), fun j h h2 => by
          by_cases h3 : j < k
          · exact hno j h h3
          · obtain rfl : j = k := by omega
            rw [← hy]; exact fun e => c25 (congrArg Subtype.val e), hlm1⟩
      · first | omega | (simp only; omega) | (simp; omega)
  ·
    refine CW.exit (hE6 (.exit 0) nofun _ _ (hE5 (.exit 0) nofun _ _ (hX4 _ _ ?_)))
    refine hK2 _ _ ?_
    refine CW.seq (fun K12 hK12 hE12 => ?_)
    refine CW.region ?_
    refine LR.v (Y.assign rfl rfl) (Wd.u rfl) rfl rfl ?_
    refine LR.v (Y.assign rfl rfl) (Wd.u rfl) rfl rfl ?_
    refine LR.nil ?_
    refine hK12 _ _ ?_
    refine CW.ret (hret .ret (.inr rfl) _ _ _ (res2 rfl rfl rfl) ?_)
    exact ⟨⟨none, 0, 0⟩, [], false, rfl, .inr ⟨rfl, paR_none (fun j h => hno j h (by omega)), rfl⟩, Rd.nil _ _ _ _, hm0⟩

theorem ups_ct (gb : Nat) (nl : SV) (nd : List Nd) (F : Nat → Prop) (vf : Value) (st : List Ide) (w0 : World) (H0 : Heap)
    (hg : GrR F H0 gb nl nd) (bf_hg : BF F H0.size) (hf : RdT H0 fA 32 vf st) (hst : st.length ≤ 100000) (hnd : NdOk nd) :
    Ct Try.prog w0 34 #[.pointer (some ⟨gb, 0, none⟩), vf] H0 (fun r H2 => ∃ s : SV, ∃ k2 : Nat, ∃ seen : List Ide, ∃ e : Nat, r = .tuple #[s.v, .int .i64 (e : Int)] ∧ (Ow k2 30 H2 fA 32 s.v seen) ∧ (Nx 0 H0.size k2) ∧ (UpsR (paR nd) st seen e) ∧ (seen.length ≤ 1000) ∧ Nw H0 H2) := by
  refine Ct.enter (args := [.pointer (some ⟨gb, 0, none⟩), vf]) Try.func34 rfl rfl rfl ?_
  intro Q0 hret
  have hm0 : Nw H0 H0 := Mo.refl _ _
  replace hf := hf.bnd
  have bf_hf := hf.bf
  have hnl := hnd.le
  refine CW.seq (fun K1 hK1 hE1 => ?_)
  refine CW.region ?_
  refine LR.v (Y.assign rfl rfl) (Wd.u rfl) rfl rfl ?_
  refine LR.v (Y.assign rfl rfl) (Wd.u rfl) rfl rfl ?_
  refine LR.nil ?_
  refine hK1 _ _ ?_
  refine CW.seq (fun K2 hK2 hE2 => ?_)
  refine CW.region ?_
  refine LR.v (Y.assign rfl rfl) (Wd.u rfl) rfl rfl ?_
  refine LR.nil ?_
  refine hK2 _ _ ?_
  refine CW.seq (fun K3 hK3 hE3 => ?_)
  refine CW.region ?_
  refine LR.z (Z.litw _ (([] : List Ide)) rfl inf28 rfl rfl rfl (by decide) (by decide) fA_len fA_one (rfl)) (Wd.u rfl) rfl rfl (fun v11 H11 r11 => ?_)
  obtain ⟨ow11, hs11, ob11, hH11⟩ := r11
  have hzs11 : H11.size = H0.size + 1 := by rw [hH11]; simp
  have df1 := (DF.new (bf_hg.mono hm0.size) : DF _ (H0.size + 1))
  have df2 := (DF.new (bf_hf.mono hm0.size) : DF _ (H0.size + 1))
  have nx3 : Nx 0 H0.size (H0.size + 1) := Nx.new hm0.size
  replace hg := hg.nw hs11
  replace hf := hf.nw hs11
  replace hm0 := hm0.tr hs11
  have hz1 := hs11.size
  refine LR.v (Y.move rfl rfl) (Wd.u rfl) rfl rfl ?_
  refine LR.z (Z.apnd ow11 hf rfl inf28 rfl rfl (by first | omega | (simp; omega)) (by first | omega | (simp; omega))) (Wd.u rfl) rfl rfl (fun v13 H13 r13 => ?_)
  obtain ⟨k13, hw, hk13, hs13⟩ := r13
  replace hk13 : Nx (H0.size + 1) H11.size k13 := hk13
  replace hs13 := hs13.md
  have df4 := DF.app (df1) (bf_hg.mono hm0.size) hk13
  have df5 := DF.app (df2) (bf_hf.mono hm0.size) hk13
  have nx6 : Nx 0 H0.size k13 := Nx.tr (nx3) hk13 hm0.size
  replace hg := hg.upL hs13 (DFL.cons df1 DFL.nil)
  replace hf := hf.upL hs13 (DFL.cons df2 DFL.nil)
  replace hm0 := (Mo.trL (ks := []) (hm0.mdn []) hs13 (MIL.cons (MI.app MI.z (nx3) (Nat.le_refl _)) MIL.nil)).nil
  have hz2 := hs13.size
  have hle_hw := hw.le
  refine LR.v (Y.assign rfl rfl) (Wd.u rfl) rfl rfl ?_
  refine LR.nil ?_
  refine hK3 _ _ ?_
  refine CW.seq (fun K4 hK4 hE4 => ?_)
  refine CW.block (fun K5 hK5 hX5 hE5 => ?_)
  refine CW.loop (fun (s_ : (List Ide) × (Value) × (Nat) × (List Ide) × (Value) × (Nat)) => match s_ with | (seen, vs, ks, wait, vw, kw) => [(0, .pointer (some ⟨gb, 0, none⟩)), (6, vs), (7, vw)])
    (fun (s_ : (List Ide) × (Value) × (Nat) × (List Ide) × (Value) × (Nat)) (H : Heap) => match s_ with | (seen, vs, ks, wait, vw, kw) => (Ow ks 30 H fA 32 vs seen) ∧ (Owt kw 30 H fA 32 vw wait) ∧ (UInv (paR nd) st seen wait) ∧ (wait.length ≤ st.length + 4 * seen.length) ∧ (Nx 0 H13.size ks) ∧ (Nx k13 H13.size kw) ∧ (Dj ks kw) ∧ Mo (Ms [k13]) H13 H)
    (fun (s_ : (List Ide) × (Value) × (Nat) × (List Ide) × (Value) × (Nat)) => match s_ with | (seen, vs, ks, wait, vw, kw) => 5 * (nd.length - seen.length) + wait.length) ([], .slice none 0 0, 0, st, v13, k13) ⟨rfl, rfl, rfl, trivial⟩ ?_ ?_
  ·
    exact ⟨Ow.nil fA_len fA_one, (by simpa using hw.tl), UInv.start _ _, (by omega), Nx.refl _ _, Nx.refl _ _, Dj.z2, Mo.refl _ _⟩
  rintro ⟨seen, vs, ks, wait, vw, kw⟩ HL1 hI1 K6 hN6 hE6
  obtain ⟨hs, hw, hI, hwl, nxl_hs, nxl_hw, dj_hs_hw, hlm1⟩ := hI1
  have df7 := DF.app (DF.z) (bf_hg.mono hm0.size) nxl_hs
  have df8 := DF.app (DF.z) (bf_hf.mono hm0.size) nxl_hs
  have nx9 : Nx 0 H0.size ks := Nx.tr (Nx.refl 0 _) nxl_hs hm0.size
  have df10 := DF.app (df4) (bf_hg.mono hm0.size) nxl_hw
  have df11 := DF.app (df5) (bf_hf.mono hm0.size) nxl_hw
  have nx12 : Nx 0 H0.size kw := Nx.tr (nx6) nxl_hw hm0.size
  replace hg := hg.upL hlm1 (DFL.cons df4 DFL.nil)
  replace hf := hf.upL hlm1 (DFL.cons df5 DFL.nil)
  replace hm0 := (Mo.trL (ks := []) (hm0.mdn []) hlm1 (MIL.cons (MI.app MI.z (nx6) (Nat.le_refl _)) MIL.nil)).nil
  have hz3 := hlm1.size
  have hle_hs := hs.le
  have hle_hw := hw.le
  have dj13 := dj_hs_hw
  have nx14 := nxl_hs
  have nx15 := nxl_hw
  have hsn := hI.len
  refine CW.seq (fun K7 hK7 hE7 => ?_)
  refine CW.seq (fun K8 hK8 hE8 => ?_)
  refine CW.region ?_
  refine LR.v (Y.move rfl rfl) (Wd.u rfl) rfl rfl ?_
  refine LR.v (Y.len hw.rd rfl Try.runUnderlying28 rfl) (Wd.u rfl) rfl rfl ?_
  refine LR.v (Y.gtr rfl rfl rfl) (Wd.u rfl) rfl rfl ?_
  refine LR.nil ?_
  refine hK8 _ _ ?_
  refine CW.condp rfl (fun c16 => ?_) (fun c16 => ?_)
  ·
    obtain ⟨x, wt, hwx⟩ : ∃ x wt, wait = x :: wt := by
      cases wait with
      | nil => simp at c16
      | cons x wt => exact ⟨x, wt, rfl⟩
    rw [hwx] at hw hI hwl
    refine CW.skip ?_
    refine hK7 _ _ ?_
    refine CW.block (fun K9 hK9 hX9 hE9 => ?_)
    refine CW.seq (fun K10 hK10 hE10 => ?_)
    refine CW.region ?_
    refine LR.v (Y.move rfl rfl) (Wd.u rfl) rfl rfl ?_
    refine LR.e (g := fun ad => .pointer (some ad)) (Y.indexAddr hw.rd (0) rfl Try.runUnderlying28 Try.sizeOf30 rfl rfl (by first | rfl | omega) (by simp)) (Wd.u rfl) rfl rfl (fun ad18 pt18 => ?_)
    refine LR.v (Y.cast (v2 := vA x) (Y.loadN pt18 rfl Try.isAgg30 Try.sizeOf30 (fA_len _) rfl) (rfl)) (Wd.u rfl) rfl rfl ?_
    refine LR.z (Z.allocv rfl Try.zeroValue30) (Wd.u rfl) rfl rfl (fun v8 H8 r8 => ?_)
    obtain ⟨rfl, vi, hs8, ob8, hH8⟩ := r8
    have hzs8 : H8.size = HL1.size + 1 := by rw [hH8]; simp
    have df16 := (DF.new (bf_hg.mono hm0.size) : DF _ (HL1.size + 1))
    have df17 := (DF.new (bf_hf.mono hm0.size) : DF _ (HL1.size + 1))
    have dj18 : Dj kw (HL1.size + 1) := Dj.new hw.le
    have dj19 : Dj ks (HL1.size + 1) := Dj.new hs.le
    have nx20 : Nx 0 H0.size (HL1.size + 1) := Nx.new hm0.size
    have nx21 : Nx 0 H13.size (HL1.size + 1) := Nx.new hlm1.size
    replace hg := hg.nw hs8
    replace hf := hf.nw hs8
    replace hw := hw.nw hs8
    replace hs := hs.nw hs8
    replace hm0 := hm0.tr hs8
    replace hlm1 := hlm1.trN hs8
    have hz4 := hs8.size
    replace vi : Var 30 H8 HL1.size (fA Zid) := vi
    refine LR.s (S.var vi (_) (fA (x)) rfl rfl rfl rfl (fA_one _) Try.sizeOf30 (fA_len _) (by first | decide | simp [fA_len]) ((splice_all2 (by first | exact (fA_len _).symm | rfl | exact (fA_len _).trans (fA_len _).symm)))) (Wd.u rfl) rfl (fun H4_4 r4_4 => ?_)
    obtain ⟨vi, hs4_4⟩ := r4_4
    replace hs4_4 := hs4_4.md1
    replace hg := hg.upL hs4_4 (DFL.cons df16 DFL.nil)
    replace hf := hf.upL hs4_4 (DFL.cons df17 DFL.nil)
    replace hw := hw.upL hs4_4 (DL.cons dj18 DL.nil)
    replace hs := hs.upL hs4_4 (DL.cons dj19 DL.nil)
    replace hm0 := (Mo.trL (ks := []) (hm0.mdn []) hs4_4 (MIL.cons (MI.app MI.z (nx20) (Nat.le_refl _)) MIL.nil)).nil
    replace hlm1 := hlm1.trL hs4_4 (MIL.cons (MI.app MI.z (nx21) (Nat.le_refl _)) MIL.nil)
    have hz5 := hs4_4.size
    refine LR.nil ?_
    refine hK10 _ _ ?_
    refine CW.seq (fun K11 hK11 hE11 => ?_)
    refine CW.region ?_
    refine LR.v (Y.move rfl rfl) (Wd.u rfl) rfl rfl ?_
    refine LR.e (g := fun v => v) (Y.owTail hw (1) rfl Try.runUnderlying28 Try.sizeOf30 rfl rfl (by first | rfl | omega) (by simp)) (Wd.u rfl) rfl rfl (fun v21 hw => ?_)
    replace hw : Owt _ _ _ _ _ _ wt := hw
    refine LR.v (Y.assign rfl rfl) (Wd.u rfl) rfl rfl ?_
    refine LR.nil ?_
    refine hK11 _ _ ?_
    refine CW.seq (fun K12 hK12 hE12 => ?_)
    refine CW.seq (fun K13 hK13 hE13 => ?_)
    refine CW.region ?_
    refine LR.v (Y.move rfl rfl) (Wd.u rfl) rfl rfl ?_
    refine LR.v (Y.loadN vi.pt rfl Try.isAgg30 Try.sizeOf30 (fA_len _) rfl) (Wd.u rfl) rfl rfl ?_
    -- call selvage/selvageref1.Has
    refine LR.call rfl Try.call35 rfl (Wd.u rfl) rfl rfl (rhas_ct vs seen x w0 _ hs.rd.any) (fun v24 H24 r24 => ?_)
    obtain ⟨rfl, hs24⟩ := r24
    replace hg := hg.nw hs24
    replace hf := hf.nw hs24
    replace hw := hw.nw hs24
    replace hs := hs.nw hs24
    replace vi := vi.nw hs24
    replace hm0 := hm0.tr hs24
    replace hlm1 := hlm1.trN hs24
    have hz6 := hs24.size
    refine LR.nil ?_
    refine hK13 _ _ ?_
    refine CW.condp rfl (fun c24 => ?_) (fun c24 => ?_)
    ·
      refine CW.exit (hE12 (.exit 1) nofun _ _ (hX9 _ _ ?_))
      refine QN.sub (hN6 (seen, vs, ks, wt, v21, kw) _ ?_ ?_) ⟨rfl, rfl, rfl, trivial⟩
      · exact ⟨hs, hw, hI.skip c24, by simp only [List.length_cons] at hwl; omega, nx14, nx15, dj13, hlm1⟩
      · simp only [hwx, List.length_cons]; omega
    ·
      refine CW.skip ?_
      refine hK12 _ _ ?_
      refine CW.seq (fun K14 hK14 hE14 => ?_)
      refine CW.region ?_
      refine LR.v (Y.move rfl rfl) (Wd.u rfl) rfl rfl ?_
      refine LR.v (Y.loadN vi.pt rfl Try.isAgg30 Try.sizeOf30 (fA_len _) rfl) (Wd.u rfl) rfl rfl ?_
      -- call (*selvage/selvageref11.Graph).parents
      refine LR.call rfl Try.call36 rfl (Wd.u rfl) rfl rfl (rpar_ct gb nl nd x F w0 _ hg (bf_hg.mono (by omega))) (fun v28 H28 r28 => ?_)
      obtain ⟨sp, ps, b28, rfl, hp28, hr28, hs28⟩ := r28
      replace hg := hg.nw hs28
      replace hf := hf.nw hs28
      replace hw := hw.nw hs28
      replace hs := hs.nw hs28
      replace vi := vi.nw hs28
      replace hm0 := hm0.tr hs28
      replace hlm1 := hlm1.trN hs28
      have hz7 := hs28.size
      have bf_hr28 := bf_hg
      refine LR.v (Y.move rfl rfl) (Wd.u rfl) rfl rfl ?_
      refine LR.v (Y.cast (v2 := sp.v) (Y.extract rfl rfl rfl) (rfl)) (Wd.u rfl) rfl rfl ?_
      refine LR.v (Y.cast (v2 := .bool b28) (Y.extract rfl rfl rfl) (rfl)) (Wd.u rfl) rfl rfl ?_
      refine LR.v (Y.assign rfl rfl) (Wd.u rfl) rfl rfl ?_
      refine LR.v (Y.assign rfl rfl) (Wd.u rfl) rfl rfl ?_
      refine LR.nil ?_
      refine hK14 _ _ ?_
      refine CW.seq (fun K15 hK15 hE15 => ?_)
      refine CW.seq (fun K16 hK16 hE16 => ?_)
      refine CW.region ?_
      refine LR.v (Y.move rfl rfl) (Wd.u rfl) rfl rfl ?_
      refine LR.v (Y.not rfl rfl) (Wd.u rfl) rfl rfl ?_
      refine LR.nil ?_
      refine hK16 _ _ ?_
      refine CW.cond rfl (fun c32 => ?_) (fun c32 => ?_)
      ·
        replace hp28 : paR nd x = none := by
          rcases hp28 with h | h
          · exact absurd h.1 (by simpa using c32)
          · exact h.2.1
        refine CW.seq (fun K17 hK17 hE17 => ?_)
        refine CW.region ?_
        refine LR.v (Y.assign rfl rfl) (Wd.u rfl) rfl rfl ?_
        refine LR.v (Y.assign rfl rfl) (Wd.u rfl) rfl rfl ?_
        refine LR.nil ?_
        refine hK17 _ _ ?_
        refine CW.ret (hE15 .ret nofun _ _ (hE9 .ret nofun (by simp) _ _ (hE6 .ret nofun _ _ (hE5 .ret nofun (by simp) _ _ (hE4 .ret nofun _ _ (hret .ret (.inr rfl) _ _ _ (res2 rfl rfl rfl) ?_))))))
        exact ⟨⟨none, 0, 0⟩, 0, [], 2, rfl, Ow.nil fA_len fA_one, Nx.refl _ _, hI.none hp28, by simp, hm0⟩
      ·
        replace hp28 : paR nd x = some ps := by
          rcases hp28 with h | h
          · exact h.2
          · exact absurd h.1 (by simpa using c32)
        have hI2 := hI.take hp28
        have hwi := withI_new c24
        have hpl := hnd.pl hp28
        have hn2 := hI2.len
        simp only [List.length_cons] at hwl
        refine CW.skip ?_
        refine hK15 _ _ ?_
        refine CW.seq (fun K18 hK18 hE18 => ?_)
        refine CW.region ?_
        refine LR.v (Y.move rfl rfl) (Wd.u rfl) rfl rfl ?_
        refine LR.v (Y.loadN vi.pt rfl Try.isAgg30 Try.sizeOf30 (fA_len _) rfl) (Wd.u rfl) rfl rfl ?_
        -- call selvage/selvageref1.With
        refine LR.call rfl Try.call46 rfl (Wd.u rfl) rfl rfl (rwith_ct vs seen x w0 _ hs.rd.any (by omega) c24) (fun v35 H35 r35 => ?_)
        obtain ⟨s35, k35, rfl, os, hk35, hs35⟩ := r35
        have df22 := DF.app (DF.z) (bf_hg.mono hm0.size) hk35
        have df23 := DF.app (DF.z) (bf_hf.mono hm0.size) hk35
        have dj24 : Dj kw k35 := Dj.app (Dj.z) hw.le hk35
        have dj25 : Dj ks k35 := Dj.app (Dj.z) hs.le hk35
        have dj26 : Dj (HL1.size + 1) k35 := Dj.app (Dj.z) vi.lt hk35
        have df27 := DF.app (DF.z) (bf_hr28.mono hm0.size) hk35
        have nx28 : Nx 0 H0.size k35 := Nx.tr (Nx.refl 0 _) hk35 hm0.size
        have nx29 : Nx 0 H13.size k35 := Nx.tr (Nx.refl 0 _) hk35 hlm1.size
        replace hg := hg.nw hs35
        replace hf := hf.nw hs35
        replace hw := hw.nw hs35
        replace hs := hs.nw hs35
        replace vi := vi.nw hs35
        replace hr28 := hr28.nw hs35
        replace hm0 := hm0.tr hs35
        replace hlm1 := hlm1.trN hs35
        have hz8 := hs35.size
        have hle_os := os.le
        refine LR.v (Y.assign rfl rfl) (Wd.u rfl) rfl rfl ?_
        refine LR.nil ?_
        refine hK18 _ _ ?_
        refine CW.seq (fun K19 hK19 hE19 => ?_)
        refine CW.seq (fun K20 hK20 hE20 => ?_)
        refine CW.region ?_
        refine LR.v (Y.move rfl rfl) (Wd.u rfl) rfl rfl ?_
        refine LR.v (Y.len os.rd rfl Try.runUnderlying28 rfl) (Wd.u rfl) rfl rfl ?_
        refine LR.v (Y.gtr rfl rfl rfl) (Wd.u rfl) rfl rfl ?_
        refine LR.nil ?_
        refine hK20 _ _ ?_
        refine CW.condp rfl (fun c38 => ?_) (fun c38 => ?_)
        ·
          exfalso; omega
        ·
          refine CW.skip ?_
          refine hK19 _ _ ?_
          refine CW.region ?_
          refine LR.v (Y.move rfl rfl) (Wd.u rfl) rfl rfl ?_
          refine LR.v (Y.move rfl rfl) (Wd.u rfl) rfl rfl ?_
          refine LR.z (Z.apndT hw hr28 rfl inf28 rfl rfl (by omega) (by omega)) (Wd.u rfl) rfl rfl (fun v41 H41 r41 => ?_)
          obtain ⟨k41, hw, hk41, hs41⟩ := r41
          replace hk41 : Nx kw H35.size k41 := hk41
          replace hs41 := hs41.md
          have df30 := DF.app (df10) (bf_hg.mono hm0.size) hk41
          have df31 := DF.app (df11) (bf_hf.mono hm0.size) hk41
          have dj32 : Dj ks k41 := Dj.app (dj13) hs.le hk41
          have df33 := DF.app (df10) (bf_hr28.mono hm0.size) hk41
          have dj34 : Dj k35 k41 := Dj.app (dj24.symm) os.le hk41
          have nx35 : Nx 0 H0.size k41 := Nx.tr (nx12) hk41 hm0.size
          have nx36 : Nx k13 H13.size k41 := Nx.tr (nx15) hk41 hlm1.size
          replace hg := hg.upL hs41 (DFL.cons df10 DFL.nil)
          replace hf := hf.upL hs41 (DFL.cons df11 DFL.nil)
          replace hs := hs.upL hs41 (DL.cons dj13 DL.nil)
          replace hr28 := hr28.upL hs41 (DFL.cons df10 DFL.nil)
          replace os := os.upL hs41 (DL.cons dj24.symm DL.nil)
          replace hm0 := (Mo.trL (ks := []) (hm0.mdn []) hs41 (MIL.cons (MI.app MI.z (nx12) (Nat.le_refl _)) MIL.nil)).nil
          replace hlm1 := hlm1.trL hs41 (MIL.cons (MI.app (MI.root (by simp)) (nx15) (Nat.le_refl _)) MIL.nil)
          have hz9 := hs41.size
          have hle_hw := hw.le
          refine LR.v (Y.assign rfl rfl) (Wd.u rfl) rfl rfl ?_
          refine LR.nil ?_
          refine hK9 _ _ ?_
          refine QN.sub (hN6 (withI seen x, s35.v, k35, wt ++ ps, v41, k41) _ ?_ ?_) ⟨rfl, rfl, rfl, trivial⟩
          · exact ⟨os, hw, hI2, by rw [List.length_append, hwi]; omega, nx29, nx36, dj34, hlm1⟩
          · simp only [List.length_append, hwx, List.length_cons]; omega
  ·
    obtain rfl : wait = [] := by
      cases wait with
      | nil => rfl
      | cons x wt => exact absurd c16 (by simp)
    obtain ⟨s9, hs9⟩ : ∃ s : SV, vs = s.v := ⟨toSV vs, hs.sv.symm⟩
    refine CW.exit (hE7 (.exit 0) nofun _ _ (hE6 (.exit 0) nofun _ _ (hX5 _ _ ?_)))
    refine hK4 _ _ ?_
    refine CW.seq (fun K21 hK21 hE21 => ?_)
    refine CW.region ?_
    refine LR.v (Y.move rfl rfl) (Wd.u rfl) rfl rfl ?_
    refine LR.v (Y.assign rfl rfl) (Wd.u rfl) rfl rfl ?_
    refine LR.v (Y.assign rfl rfl) (Wd.u rfl) rfl rfl ?_
    refine LR.nil ?_
    refine hK21 _ _ ?_
    refine CW.ret (hret .ret (.inr rfl) _ _ _ (res2 rfl rfl rfl) ?_)
    exact ⟨s9, ks, seen, 0, by rw [hs9]; rfl, by rw [← hs9]; exact hs, nx9, hI.done, by omega, hm0⟩

end Go.Proofs.Ytepdhokpfecdnaa.GraY
/-
  The document's graph: Above, Order.
-/
namespace Go.Proofs.Ytepdhokpfecdnaa.GraZ
open Go.Proofs.Ytepdhokpfecdnaa.E Go.RowKit Go.Proofs.Ytepdhokpfecdnaa.GraA Go.Proofs.Ytepdhokpfecdnaa.GraB Go.Proofs.Ytepdhokpfecdnaa.GraC Go.Proofs.Ytepdhokpfecdnaa.GraD Go.Proofs.Ytepdhokpfecdnaa.GraE Go.Proofs.Ytepdhokpfecdnaa.GraF Go.Proofs.Ytepdhokpfecdnaa.GraG Go.Proofs.Ytepdhokpfecdnaa.GraH Go.Proofs.Ytepdhokpfecdnaa.GraI Go.Proofs.Ytepdhokpfecdnaa.GraJ Go.Proofs.Ytepdhokpfecdnaa.GraK Go.Proofs.Ytepdhokpfecdnaa.GraL Go.Proofs.Ytepdhokpfecdnaa.GraM Go.Proofs.Ytepdhokpfecdnaa.GraN Go.Proofs.Ytepdhokpfecdnaa.GraO Go.Proofs.Ytepdhokpfecdnaa.GraP Go.Proofs.Ytepdhokpfecdnaa.GraX Go.Proofs.Ytepdhokpfecdnaa.GraY
set_option maxRecDepth 20000
set_option linter.unusedVariables false
set_option linter.unusedSimpArgs false
set_option linter.unusedSectionVars false
set_option maxRecDepth 100000 in
theorem inf28 : Inf Try.prog 28 30 32 32 := ⟨Try.underlying28, _, _, rfl, rfl, rfl, rfl, rfl⟩

/-- are all told? -/
def TldR (pa : Ide → Option (List Ide)) (st : List Ide) (e : Nat) : Prop :=
  (e = 0 ∧ ∀ k, (∃ i ∈ st, UpO pa i k) → (pa k).isSome = true) ∨ (e = 2 ∧ ∃ k, (∃ i ∈ st, UpO pa i k) ∧ pa k = none)
section
variable {pa : Ide → Option (List Ide)} {st st2 seen : List Ide} {e : Nat}
theorem UpsR.tld (h : UpsR pa st seen e) : TldR pa st e := by
  rcases h with ⟨h1, _, h2, h3⟩ | ⟨h1, _, h2⟩
  · exact .inl ⟨h1, fun k hk => h2 k ((h3 k).2 hk)⟩
  · exact .inr ⟨h1, h2⟩
theorem TldR.get (h : TldR pa st 0) (k : Ide) (hk : ∃ i ∈ st, UpO pa i k) : (pa k).isSome = true := by
  rcases h with ⟨_, h⟩ | ⟨h, _⟩
  · exact h k hk
  · cases h
theorem UpsR.sub (h : UpsR pa st2 seen e) (ht : TldR pa st 0) (hs : ∀ k, (∃ i ∈ st2, UpO pa i k) → ∃ i ∈ st, UpO pa i k) : Ris seen ∧ ∀ k, k ∈ seen ↔ ∃ i ∈ st2, UpO pa i k := by
  rcases h with ⟨_, h1, _, h3⟩ | ⟨_, _, k, hk, hn⟩
  · exact ⟨h1, h3⟩
  · have := ht.get k (hs k hk)
    rw [hn] at this; cases this
/-- the same number as the program's -/
theorem tld_all {K : List Ide} {e2 : Nat} (h : TldR pa st e) (h2 : AllR pa st K e2) (h4 : e2 ≠ 4) : e2 = e := by
  rcases h with ⟨rfl, h⟩ | ⟨rfl, k, hk, hn⟩ <;> rcases h2 with ⟨rfl, _, a1, a2, _⟩ | ⟨rfl, j, hj, hm⟩ | ⟨rfl, _⟩
  · rfl
  · have := h j hj; rw [hm] at this; cases this
  · exact absurd rfl h4
  · exfalso
    obtain ⟨i, hi, hu⟩ := hk
    have hin : ∀ k, UpO pa i k → k ∈ K := fun k hu => by
      induction hu with
      | refl => exact a2 i hi
      | step _ hp hm ih =>
        obtain ⟨ps, q1, q2⟩ := a1 _ ih
        rw [hp] at q1; cases q1; exact q2 _ hm
    obtain ⟨ps, q1, _⟩ := a1 k (hin k hu)
    rw [hn] at q1; cases q1
  · rfl
  · exact absurd rfl h4
end
def pp (pa : Ide → Option (List Ide)) (k : Ide) : List Ide := (pa k).getD []
/-- an order that is under way: what is left, what is out -/
structure DOr (pa : Ide → List Ide) (S left out : List Ide) : Prop where
  p2 : P2 pa S out
  ris : Ris left
  mem : ∀ k, k ∈ left ↔ k ∈ S ∧ k ∉ out
section
variable {pa : Ide → List Ide} {S left out : List Ide} {at_ : Nat}
theorem DOr.start (h : Ris S) : DOr pa S S [] := ⟨P2.start, h, fun k => by simp⟩
theorem DOr.next (h : DOr pa S left out) (ha : at_ < left.length) (hr : ∀ p ∈ pa left[at_], p ∉ left) (hno : ∀ j (h : j < left.length), j < at_ → ¬ ∀ p ∈ pa left[j], p ∉ left) : DOr pa S (left.take at_ ++ left.drop (at_ + 1)) (out ++ [left[at_]]) := by
  have hz := (h.mem _).1 (List.getElem_mem ha)
  have hpar : ∀ y, (∀ p ∈ pa y, p ∉ left) → ∀ p ∈ pa y, p ∈ S → p ∈ out := fun y hy p hp hk => Decidable.byContradiction fun hn => hy p hp ((h.mem p).2 ⟨hk, hn⟩)
  have hnd := ris_nodup h.ris
  refine ⟨⟨?_, fun k hk => ?_, fun j hj p hp hk => ?_, fun j hj y hy hyd hyp hl => ?_⟩, ?_, fun k => ?_⟩
  · rw [List.nodup_append]
    exact ⟨h.p2.dnd, by simp, fun a ha b hb e => by simp only [List.mem_singleton] at hb; subst hb; subst e; exact hz.2 ha⟩
  · rcases List.mem_append.1 hk with hk | hk
    · exact h.p2.dsub k hk
    · simp only [List.mem_singleton] at hk; subst hk; exact hz.1
  · by_cases hjd : j < out.length
    · rw [List.getElem_append_left hjd] at hp
      rw [List.take_append_of_le_length (by omega)]
      exact h.p2.par j hjd p hp hk
    · have hje : j = out.length := by simp at hj; omega
      subst hje
      rw [List.getElem_concat_length rfl] at hp
      rw [List.take_left' rfl]
      exact hpar _ hr p hp hk
  · by_cases hjd : j < out.length
    · rw [List.getElem_append_left hjd] at hl
      rw [List.take_append_of_le_length (by omega)] at hyd hyp
      exact h.p2.low j hjd y hy hyd hyp hl
    · have hje : j = out.length := by simp at hj; omega
      subst hje
      rw [List.getElem_concat_length rfl] at hl
      rw [List.take_left' rfl] at hyd hyp
      obtain ⟨q, hq, rfl⟩ := List.getElem_of_mem ((h.mem y).2 ⟨hy, hyd⟩)
      have hqa : at_ ≤ q := Nat.le_of_not_lt fun hlt => hno q hq hlt (fun p hp hm => by
        have hm2 := (h.mem p).1 hm
        exact hm2.2 (hyp p hp hm2.1))
      rcases Nat.lt_or_eq_of_le hqa with hlt | rfl
      · exact ltA_asym hl ((List.pairwise_iff_getElem.1 h.ris) at_ q ha hq hlt)
      · exact ltA_irr _ hl
  · have hs : (left.take at_ ++ left.drop (at_ + 1)).Sublist left := by
      conv => rhs; rw [← List.take_append_drop at_ left]
      refine List.Sublist.append (List.Sublist.refl _) ?_
      rw [show left.drop (at_ + 1) = (left.drop at_).drop 1 from by rw [List.drop_drop]]
      exact List.drop_sublist _ _
    exact List.Pairwise.sublist hs h.ris
  · have e : left = left.take at_ ++ left[at_] :: left.drop (at_ + 1) := by rw [← List.drop_eq_getElem_cons ha, List.take_append_drop]
    have hn2 : left[at_] ∉ left.take at_ ++ left.drop (at_ + 1) := by
      rw [e] at hnd
      have := (List.perm_middle (a := left[at_]) (l₁ := left.take at_) (l₂ := left.drop (at_ + 1))).nodup_iff.1 hnd
      exact (List.nodup_cons.1 this).1
    have hm : k ∈ left ↔ k = left[at_] ∨ k ∈ left.take at_ ++ left.drop (at_ + 1) := by
      conv => lhs; rw [e]
      simp only [List.mem_append, List.mem_cons]
      constructor
      · rintro (h | h | h)
        · exact .inr (.inl h)
        · exact .inl h
        · exact .inr (.inr h)
      · rintro (h | h | h)
        · exact .inr (.inl h)
        · exact .inl h
        · exact .inr (.inr h)
    have h3 := h.mem k
    constructor
    · intro hk
      have h4 := h3.1 (hm.2 (.inr hk))
      refine ⟨h4.1, fun ho => ?_⟩
      rcases List.mem_append.1 ho with ho | ho
      · exact h4.2 ho
      · simp only [List.mem_singleton] at ho; subst ho; exact hn2 hk
    · rintro ⟨h5, h6⟩
      have h7 := hm.1 (h3.2 ⟨h5, fun ho => h6 (List.mem_append_left _ ho)⟩)
      rcases h7 with rfl | h7
      · exact absurd (List.mem_append_right _ (List.mem_singleton.2 rfl)) h6
      · exact h7
theorem DOr.some {rk : Ide → Nat} (h : 0 < left.length) (hac : ∀ k, ∀ p ∈ pa k, rk p < rk k) : ∃ j, ∃ h : j < left.length, ∀ p ∈ pa left[j], p ∉ left := by
  have key : ∀ n, ∀ k ∈ left, rk k < n → ∃ z ∈ left, ∀ p ∈ pa z, p ∉ left := by
    intro n
    induction n with
    | zero => intro k _ h; omega
    | succ n ih =>
      intro k hk hl
      by_cases hr : ∀ p ∈ pa k, p ∉ left
      · exact ⟨k, hk, hr⟩
      · obtain ⟨p, hp⟩ := Classical.not_forall.1 hr
        obtain ⟨hp, hm⟩ := Classical.not_imp.1 hp
        have := hac k p hp
        exact ih p (Decidable.not_not.1 hm) (by omega)
  obtain ⟨z, hz, hr⟩ := key _ left[0] (List.getElem_mem h) (Nat.lt_succ_self _)
  obtain ⟨j, hj, rfl⟩ := List.getElem_of_mem hz
  exact ⟨j, hj, hr⟩
theorem DOr.done (h : DOr pa S [] out) : Topo pa S out := ⟨h.p2, fun k hk => Decidable.byContradiction fun hn => by have := (h.mem k).2 ⟨hk, hn⟩; cases this⟩
theorem DOr.len (h : DOr pa S left out) : left.length + out.length ≤ S.length := by
  have hd : (left ++ out).Nodup := by
    rw [List.nodup_append]
    exact ⟨ris_nodup h.ris, h.p2.dnd, fun a ha b hb e => by subst e; exact ((h.mem a).1 ha).2 hb⟩
  have := nodup_le hd (fun k hk => by
    rcases List.mem_append.1 hk with hk | hk
    · exact ((h.mem k).1 hk).1
    · exact h.p2.dsub k hk)
  simpa using this
end
theorem topo_congr {pa pb : Ide → List Ide} {S out : List Ide} (h : Topo pa S out) (he : ∀ k ∈ S, pb k = pa k) : Topo pb S out := by
  refine ⟨⟨h.dnd, h.dsub, fun j hj p hp hk => h.par j hj p (by rw [← he _ (h.dsub _ (List.getElem_mem hj))]; exact hp) hk, fun j hj y hy hyd hyp => h.low j hj y hy hyd (by rw [← he y hy]; exact hyp)⟩, h.all⟩
theorem topo_set {pa : Ide → List Ide} {S S2 out : List Ide} (h : Topo pa S out) (he : ∀ k, k ∈ S ↔ k ∈ S2) : Topo pa S2 out :=
  ⟨⟨h.dnd, fun k hk => (he k).1 (h.dsub k hk), fun j hj p hp hk => h.par j hj p hp ((he p).2 hk), fun j hj y hy hyd hyp => h.low j hj y ((he y).2 hy) hyd (fun p hp hk => hyp p hp ((he p).1 hk))⟩, fun k hk => h.all k ((he k).2 hk)⟩
/-- what the document's Order tells -/
def ROr (pa : Ide → Option (List Ide)) (fr un out : List Ide) (e : Nat) : Prop :=
  TldR pa (fr ++ un) e ∧ (e ≠ 0 → out = []) ∧ (e = 0 → ∃ S, Topo (pp pa) S out ∧ ∀ k, k ∈ S ↔ (∃ i ∈ fr, UpO pa i k) ∧ ¬ ∃ i ∈ un, UpO pa i k)
theorem ror_ord {pa : Ide → Option (List Ide)} {fr un out out2 : List Ide} (h : ROr pa fr un out 0) (h2 : Ord pa fr un out2) : out = out2 := by
  obtain ⟨S, hT, hS⟩ := h.2.2 rfl
  obtain ⟨K, S2, hA, hT2, hS2⟩ := h2
  have hT3 : Topo (pp pa) S out2 := by
    refine topo_set (topo_congr hT2 (fun k hk => ?_)) (fun k => by rw [hS, hS2])
    have hk2 := ((hS2 k).1 hk).1
    obtain ⟨i, hi, hu⟩ := hk2
    obtain ⟨_, _, hst, _⟩ := all0 hA
    have := cpa_in hA (up_in hA (hst i (List.mem_append_left _ hi)) hu)
    unfold pp; rw [this]; rfl
  exact topo_one hT hT3
theorem filt_take {l : List Ide} {p : Ide → Bool} {i : Nat} (h : i < l.length) : (l.take (i + 1)).filter p = (l.take i).filter p ++ (if p l[i] = true then [l[i]] else []) := by
  rw [List.take_succ_eq_append_getElem h, List.filter_append]
  congr 1
  by_cases h2 : p l[i] = true
  · rw [if_pos h2, List.filter_cons_of_pos h2]; rfl
  · rw [if_neg h2, List.filter_cons_of_neg h2]; rfl
theorem filt_len {l : List Ide} {p : Ide → Bool} {i : Nat} : ((l.take i).filter p).length ≤ l.length :=
  Nat.le_trans (List.length_filter_le _ _) (by rw [List.length_take]; omega)

theorem rabv_ct (gb : Nat) (nl : SV) (nd : List Nd) (F : Nat → Prop) (a b : Ide) (w0 : World) (H0 : Heap)
    (hg : GrR F H0 gb nl nd) (bf_hg : BF F H0.size) (hnd : NdOk nd) :
    Ct Try.prog w0 22 #[.pointer (some ⟨gb, 0, none⟩), vA a, vA b] H0 (fun r H2 => ∃ up : Bool, ∃ e : Nat, r = .tuple #[.bool up, .int .i64 (e : Int)] ∧ (TldR (paR nd) [a, b] e) ∧ ((e = 0 → (up = true ↔ UpO (paR nd) b a)) ∧ (e ≠ 0 → up = false)) ∧ Nw H0 H2) := by
  refine Ct.enter (args := [.pointer (some ⟨gb, 0, none⟩), vA a, vA b]) Try.func22 rfl rfl rfl ?_
  intro Q0 hret
  have hm0 : Nw H0 H0 := Mo.refl _ _
  refine CW.seq (fun K1 hK1 hE1 => ?_)
  refine CW.region ?_
  refine LR.z (Z.boxv rfl rfl) (Wd.u rfl) rfl rfl (fun v4 H4 r4 => ?_)
  obtain ⟨rfl, va, hs4, ob4, hH4⟩ := r4
  have hzs4 : H4.size = H0.size + 1 := by rw [hH4]; simp
  have df1 := (DF.new (bf_hg.mono hm0.size) : DF _ (H0.size + 1))
  have nx2 : Nx 0 H0.size (H0.size + 1) := Nx.new hm0.size
  replace hg := hg.nw hs4
  replace hm0 := hm0.tr hs4
  have hz1 := hs4.size
  replace va : Var 30 H4 H0.size (fA a) := va
  refine LR.z (Z.boxv rfl rfl) (Wd.u rfl) rfl rfl (fun v5 H5 r5 => ?_)
  obtain ⟨rfl, vb, hs5, ob5, hH5⟩ := r5
  have hzs5 : H5.size = H4.size + 1 := by rw [hH5]; simp
  have df3 := (DF.new (bf_hg.mono hm0.size) : DF _ (H4.size + 1))
  have dj4 : Dj (H0.size + 1) (H4.size + 1) := Dj.new va.lt
  have nx5 : Nx 0 H0.size (H4.size + 1) := Nx.new hm0.size
  replace hg := hg.nw hs5
  replace va := va.nw hs5
  replace hm0 := hm0.tr hs5
  have hz2 := hs5.size
  replace vb : Var 30 H5 H4.size (fA b) := vb
  refine LR.v (Y.assign rfl rfl) (Wd.u rfl) rfl rfl ?_
  refine LR.v (Y.assign rfl rfl) (Wd.u rfl) rfl rfl ?_
  refine LR.nil ?_
  refine hK1 _ _ ?_
  refine CW.seq (fun K2 hK2 hE2 => ?_)
  refine CW.region ?_
  refine LR.v (Y.move rfl rfl) (Wd.u rfl) rfl rfl ?_
  refine LR.v (Y.loadN va.pt rfl Try.isAgg30 Try.sizeOf30 (fA_len _) rfl) (Wd.u rfl) rfl rfl ?_
  refine LR.v (Y.loadN vb.pt rfl Try.isAgg30 Try.sizeOf30 (fA_len _) rfl) (Wd.u rfl) rfl rfl ?_
  refine LR.z (Z.litw _ ([a, b]) rfl inf28 rfl rfl rfl (by decide) (by decide) fA_len fA_one (rfl)) (Wd.u rfl) rfl rfl (fun v16 H16 r16 => ?_)
  obtain ⟨ow16, hs16, ob16, hH16⟩ := r16
  have hzs16 : H16.size = H5.size + 1 := by rw [hH16]; simp
  have df6 := (DF.new (bf_hg.mono hm0.size) : DF _ (H5.size + 1))
  have dj7 : Dj (H0.size + 1) (H5.size + 1) := Dj.new va.lt
  have dj8 : Dj (H4.size + 1) (H5.size + 1) := Dj.new vb.lt
  have nx9 : Nx 0 H0.size (H5.size + 1) := Nx.new hm0.size
  replace hg := hg.nw hs16
  replace va := va.nw hs16
  replace vb := vb.nw hs16
  replace hm0 := hm0.tr hs16
  have hz3 := hs16.size
  -- call (*selvage/selvageref11.Graph).Ups
  refine LR.call rfl Try.call34 rfl (Wd.u rfl) rfl rfl (ups_ct gb nl nd F _ [a, b] w0 _ hg (bf_hg.mono (by omega)) ow16.rd.any (by simp) hnd) (fun v17 H17 r17 => ?_)
  obtain ⟨s17, k17, l17, e17, rfl, or17, hk17, hU17, hl17, hs17⟩ := r17
  have df10 := DF.app (DF.z) (bf_hg.mono hm0.size) hk17
  have dj11 : Dj (H0.size + 1) k17 := Dj.app (Dj.z) va.lt hk17
  have dj12 : Dj (H4.size + 1) k17 := Dj.app (Dj.z) vb.lt hk17
  have dj13 : Dj (H5.size + 1) k17 := Dj.app (Dj.z) ow16.le hk17
  have nx14 : Nx 0 H0.size k17 := Nx.tr (Nx.refl 0 _) hk17 hm0.size
  replace hg := hg.nw hs17
  replace va := va.nw hs17
  replace vb := vb.nw hs17
  replace ow16 := ow16.nw hs17
  replace hm0 := hm0.tr hs17
  have hz4 := hs17.size
  have hle_or17 := or17.le
  refine LR.v (Y.move rfl rfl) (Wd.u rfl) rfl rfl ?_
  refine LR.v (Y.cast (v2 := s17.v) (Y.extract rfl rfl rfl) (rfl)) (Wd.u rfl) rfl rfl ?_
  refine LR.v (Y.cast (v2 := .int .i64 (e17 : Int)) (Y.extract rfl rfl rfl) (rfl)) (Wd.u rfl) rfl rfl ?_
  refine LR.v (Y.assign rfl rfl) (Wd.u rfl) rfl rfl ?_
  refine LR.v (Y.assign rfl rfl) (Wd.u rfl) rfl rfl ?_
  refine LR.nil ?_
  refine hK2 _ _ ?_
  refine CW.seq (fun K3 hK3 hE3 => ?_)
  refine CW.seq (fun K4 hK4 hE4 => ?_)
  refine CW.region ?_
  refine LR.v (Y.move rfl rfl) (Wd.u rfl) rfl rfl ?_
  refine LR.v (Y.neq rfl rfl rfl) (Wd.u rfl) rfl rfl ?_
  refine LR.nil ?_
  refine hK4 _ _ ?_
  refine CW.condp rfl (fun c21 => ?_) (fun c21 => ?_)
  ·
    refine CW.seq (fun K5 hK5 hE5 => ?_)
    refine CW.region ?_
    refine LR.v (Y.move rfl rfl) (Wd.u rfl) rfl rfl ?_
    refine LR.v (Y.assign rfl rfl) (Wd.u rfl) rfl rfl ?_
    refine LR.v (Y.assign rfl rfl) (Wd.u rfl) rfl rfl ?_
    refine LR.nil ?_
    refine hK5 _ _ ?_
    refine CW.ret (hE3 .ret nofun _ _ (hret .ret (.inr rfl) _ _ _ (res2 rfl rfl rfl) ?_))
    exact ⟨false, e17, rfl, UpsR.tld hU17, ⟨fun h => absurd h (by omega), fun _ => rfl⟩, hm0⟩
  ·
    obtain rfl : e17 = 0 := by omega
    have hT17 := UpsR.tld hU17
    refine CW.skip ?_
    refine hK3 _ _ ?_
    refine CW.seq (fun K6 hK6 hE6 => ?_)
    refine CW.region ?_
    refine LR.v (Y.move rfl rfl) (Wd.u rfl) rfl rfl ?_
    refine LR.v (Y.loadN vb.pt rfl Try.isAgg30 Try.sizeOf30 (fA_len _) rfl) (Wd.u rfl) rfl rfl ?_
    refine LR.z (Z.litw _ ([b]) rfl inf28 rfl rfl rfl (by decide) (by decide) fA_len fA_one (rfl)) (Wd.u rfl) rfl rfl (fun v26 H26 r26 => ?_)
    obtain ⟨ow26, hs26, ob26, hH26⟩ := r26
    have hzs26 : H26.size = H17.size + 1 := by rw [hH26]; simp
    have df15 := (DF.new (bf_hg.mono hm0.size) : DF _ (H17.size + 1))
    have dj16 : Dj (H0.size + 1) (H17.size + 1) := Dj.new va.lt
    have dj17 : Dj (H4.size + 1) (H17.size + 1) := Dj.new vb.lt
    have dj18 : Dj k17 (H17.size + 1) := Dj.new or17.le
    have nx19 : Nx 0 H0.size (H17.size + 1) := Nx.new hm0.size
    replace hg := hg.nw hs26
    replace va := va.nw hs26
    replace vb := vb.nw hs26
    replace or17 := or17.nw hs26
    replace hm0 := hm0.tr hs26
    have hz5 := hs26.size
    -- call (*selvage/selvageref11.Graph).Ups
    refine LR.call rfl Try.call34 rfl (Wd.u rfl) rfl rfl (ups_ct gb nl nd F _ [b] w0 _ hg (bf_hg.mono (by omega)) ow26.rd.any (by simp) hnd) (fun v27 H27 r27 => ?_)
    obtain ⟨s27, k27, l27, e27, rfl, or27, hk27, hU27, hl27, hs27⟩ := r27
    have df20 := DF.app (DF.z) (bf_hg.mono hm0.size) hk27
    have dj21 : Dj (H0.size + 1) k27 := Dj.app (Dj.z) va.lt hk27
    have dj22 : Dj (H4.size + 1) k27 := Dj.app (Dj.z) vb.lt hk27
    have dj23 : Dj k17 k27 := Dj.app (Dj.z) or17.le hk27
    have dj24 : Dj (H17.size + 1) k27 := Dj.app (Dj.z) ow26.le hk27
    have nx25 : Nx 0 H0.size k27 := Nx.tr (Nx.refl 0 _) hk27 hm0.size
    replace hg := hg.nw hs27
    replace va := va.nw hs27
    replace vb := vb.nw hs27
    replace or17 := or17.nw hs27
    replace ow26 := ow26.nw hs27
    replace hm0 := hm0.tr hs27
    have hz6 := hs27.size
    have hle_or27 := or27.le
    refine LR.v (Y.move rfl rfl) (Wd.u rfl) rfl rfl ?_
    refine LR.v (Y.cast (v2 := s27.v) (Y.extract rfl rfl rfl) (rfl)) (Wd.u rfl) rfl rfl ?_
    refine LR.v (Y.cast (v2 := .int .i64 (e27 : Int)) (Y.extract rfl rfl rfl) (rfl)) (Wd.u rfl) rfl rfl ?_
    refine LR.v (Y.assign rfl rfl) (Wd.u rfl) rfl rfl ?_
    refine LR.v (Y.assign rfl rfl) (Wd.u rfl) rfl rfl ?_
    refine LR.nil ?_
    refine hK6 _ _ ?_
    refine CW.seq (fun K7 hK7 hE7 => ?_)
    refine CW.region ?_
    refine LR.v (Y.move rfl rfl) (Wd.u rfl) rfl rfl ?_
    refine LR.v (Y.loadN va.pt rfl Try.isAgg30 Try.sizeOf30 (fA_len _) rfl) (Wd.u rfl) rfl rfl ?_
    -- call selvage/selvageref1.Has
    refine LR.call rfl Try.call35 rfl (Wd.u rfl) rfl rfl (rhas_ct _ l27 a w0 _ or27.rd.any) (fun v32 H32 r32 => ?_)
    obtain ⟨rfl, hs32⟩ := r32
    replace hg := hg.nw hs32
    replace va := va.nw hs32
    replace or17 := or17.nw hs32
    replace or27 := or27.nw hs32
    replace hm0 := hm0.tr hs32
    have hz7 := hs32.size
    refine LR.v (Y.assign rfl rfl) (Wd.u rfl) rfl rfl ?_
    refine LR.v (Y.assign rfl rfl) (Wd.u rfl) rfl rfl ?_
    refine LR.nil ?_
    refine hK7 _ _ ?_
    refine CW.ret (hret .ret (.inr rfl) _ _ _ (res2 rfl rfl rfl) ?_)
    have hm := (UpsR.sub hU27 hT17 (fun k ⟨i, hi, hu⟩ => ⟨i, by simp only [List.mem_singleton] at hi; subst hi; simp, hu⟩)).2 a
    exact ⟨decide (a ∈ l27), 0, rfl, hT17, ⟨fun _ => by rw [decide_eq_true_eq, hm]; simp, fun h => absurd rfl h⟩, hm0⟩

end Go.Proofs.Ytepdhokpfecdnaa.GraZ
/-
  The document's graph: Order.
-/
namespace Go.Proofs.Ytepdhokpfecdnaa.GraZA
open Go.Proofs.Ytepdhokpfecdnaa.E Go.RowKit Go.Proofs.Ytepdhokpfecdnaa.GraA Go.Proofs.Ytepdhokpfecdnaa.GraB Go.Proofs.Ytepdhokpfecdnaa.GraC Go.Proofs.Ytepdhokpfecdnaa.GraD Go.Proofs.Ytepdhokpfecdnaa.GraE Go.Proofs.Ytepdhokpfecdnaa.GraF Go.Proofs.Ytepdhokpfecdnaa.GraG Go.Proofs.Ytepdhokpfecdnaa.GraH Go.Proofs.Ytepdhokpfecdnaa.GraI Go.Proofs.Ytepdhokpfecdnaa.GraJ Go.Proofs.Ytepdhokpfecdnaa.GraK Go.Proofs.Ytepdhokpfecdnaa.GraL Go.Proofs.Ytepdhokpfecdnaa.GraM Go.Proofs.Ytepdhokpfecdnaa.GraN Go.Proofs.Ytepdhokpfecdnaa.GraO Go.Proofs.Ytepdhokpfecdnaa.GraP Go.Proofs.Ytepdhokpfecdnaa.GraX Go.Proofs.Ytepdhokpfecdnaa.GraY Go.Proofs.Ytepdhokpfecdnaa.GraZ
set_option maxRecDepth 20000
set_option linter.unusedVariables false
set_option linter.unusedSimpArgs false
set_option linter.unusedSectionVars false
set_option maxRecDepth 100000 in
theorem inf28 : Inf Try.prog 28 30 32 32 := ⟨Try.underlying28, _, _, rfl, rfl, rfl, rfl, rfl⟩

/-- none of its parents is left -/
def RdyP (pa : Ide → List Ide) (left : List Ide) (x : Ide) : Prop := ∀ p ∈ pa x, p ∉ left

set_option maxHeartbeats 4000000 in
theorem rord_ct (gb : Nat) (nl : SV) (nd : List Nd) (F : Nat → Prop) (vf vu : Value) (fr un : List Ide) (rk : Ide → Nat) (w0 : World) (H0 : Heap)
    (hg : GrR F H0 gb nl nd) (bf_hg : BF F H0.size) (hnd : NdOk nd) (hf : RdT H0 fA 32 vf fr) (hu : RdT H0 fA 32 vu un) (hfl : fr.length ≤ 10000) (hul : un.length ≤ 10000) (hac : ∀ k, ∀ p ∈ (pp (paR nd)) k, rk p < rk k) :
    Ct Try.prog w0 25 #[.pointer (some ⟨gb, 0, none⟩), vf, vu] H0 (fun r H2 => ∃ s : SV, ∃ k2 : Nat, ∃ out : List Ide, ∃ e : Nat, r = .tuple #[s.v, .int .i64 (e : Int)] ∧ (Ow k2 30 H2 fA 32 s.v out) ∧ (Nx 0 H0.size k2) ∧ (ROr (paR nd) fr un out e) ∧ (out.length ≤ 1000) ∧ Nw H0 H2) := by
  refine Ct.enter (args := [.pointer (some ⟨gb, 0, none⟩), vf, vu]) Try.func25 rfl rfl rfl ?_
  intro Q0 hret
  have hm0 : Nw H0 H0 := Mo.refl _ _
  replace hf := hf.bnd
  have bf_hf := hf.bf
  replace hu := hu.bnd
  have bf_hu := hu.bf
  refine CW.seq (fun K1 hK1 hE1 => ?_)
  refine CW.region ?_
  refine LR.v (Y.assign rfl rfl) (Wd.u rfl) rfl rfl ?_
  refine LR.v (Y.assign rfl rfl) (Wd.u rfl) rfl rfl ?_
  refine LR.nil ?_
  refine hK1 _ _ ?_
  refine CW.seq (fun K2 hK2 hE2 => ?_)
  refine CW.region ?_
  refine LR.v (Y.move rfl rfl) (Wd.u rfl) rfl rfl ?_
  refine LR.z (Z.litw _ (([] : List Ide)) rfl inf28 rfl rfl rfl (by decide) (by decide) fA_len fA_one (rfl)) (Wd.u rfl) rfl rfl (fun v26 H26 r26 => ?_)
  obtain ⟨ow26, hs26, ob26, hH26⟩ := r26
  have hzs26 : H26.size = H0.size + 1 := by rw [hH26]; simp
  have df1 := (DF.new (bf_hg.mono hm0.size) : DF _ (H0.size + 1))
  have df2 := (DF.new (bf_hf.mono hm0.size) : DF _ (H0.size + 1))
  have df3 := (DF.new (bf_hu.mono hm0.size) : DF _ (H0.size + 1))
  have nx4 : Nx 0 H0.size (H0.size + 1) := Nx.new hm0.size
  replace hg := hg.nw hs26
  replace hf := hf.nw hs26
  replace hu := hu.nw hs26
  replace hm0 := hm0.tr hs26
  have hz1 := hs26.size
  refine LR.v (Y.move rfl rfl) (Wd.u rfl) rfl rfl ?_
  refine LR.z (Z.apnd ow26 hf rfl inf28 rfl rfl (by first | omega | (simp; omega)) (by first | omega | (simp; omega))) (Wd.u rfl) rfl rfl (fun v28 H28 r28 => ?_)
  obtain ⟨k28, ow28, hk28, hs28⟩ := r28
  replace hk28 : Nx (H0.size + 1) H26.size k28 := hk28
  replace hs28 := hs28.md
  have df5 := DF.app (df1) (bf_hg.mono hm0.size) hk28
  have df6 := DF.app (df2) (bf_hf.mono hm0.size) hk28
  have df7 := DF.app (df3) (bf_hu.mono hm0.size) hk28
  have nx8 : Nx 0 H0.size k28 := Nx.tr (nx4) hk28 hm0.size
  replace hg := hg.upL hs28 (DFL.cons df1 DFL.nil)
  replace hf := hf.upL hs28 (DFL.cons df2 DFL.nil)
  replace hu := hu.upL hs28 (DFL.cons df3 DFL.nil)
  replace hm0 := (Mo.trL (ks := []) (hm0.mdn []) hs28 (MIL.cons (MI.app MI.z (nx4) (Nat.le_refl _)) MIL.nil)).nil
  have hz2 := hs28.size
  have hle_ow28 := ow28.le
  refine LR.v (Y.move rfl rfl) (Wd.u rfl) rfl rfl ?_
  refine LR.z (Z.apnd ow28 hu rfl inf28 rfl rfl (by first | omega | (simp; omega)) (by first | omega | (simp; omega))) (Wd.u rfl) rfl rfl (fun v30 H30 r30 => ?_)
  obtain ⟨k30, ow30, hk30, hs30⟩ := r30
  replace hk30 : Nx k28 H28.size k30 := hk30
  replace hs30 := hs30.md
  have df9 := DF.app (df5) (bf_hg.mono hm0.size) hk30
  have df10 := DF.app (df6) (bf_hf.mono hm0.size) hk30
  have df11 := DF.app (df7) (bf_hu.mono hm0.size) hk30
  have nx12 : Nx 0 H0.size k30 := Nx.tr (nx8) hk30 hm0.size
  replace hg := hg.upL hs30 (DFL.cons df5 DFL.nil)
  replace hf := hf.upL hs30 (DFL.cons df6 DFL.nil)
  replace hu := hu.upL hs30 (DFL.cons df7 DFL.nil)
  replace hm0 := (Mo.trL (ks := []) (hm0.mdn []) hs30 (MIL.cons (MI.app MI.z (nx8) (Nat.le_refl _)) MIL.nil)).nil
  have hz3 := hs30.size
  have hle_ow30 := ow30.le
  simp only [List.nil_append] at ow30
  -- call (*selvage/selvageref11.Graph).Ups
  refine LR.call rfl Try.call34 rfl (Wd.u rfl) rfl rfl (ups_ct gb nl nd F _ (fr ++ un) w0 _ hg (bf_hg.mono (by omega)) ow30.rd.any (by simp; omega) hnd) (fun v31 H31 r31 => ?_)
  obtain ⟨s31, k31, l31, e31, rfl, or31, hk31, hU31, hl31, hs31⟩ := r31
  have df13 := DF.app (DF.z) (bf_hg.mono hm0.size) hk31
  have df14 := DF.app (DF.z) (bf_hf.mono hm0.size) hk31
  have df15 := DF.app (DF.z) (bf_hu.mono hm0.size) hk31
  have dj16 : Dj k30 k31 := Dj.app (Dj.z) ow30.le hk31
  have nx17 : Nx 0 H0.size k31 := Nx.tr (Nx.refl 0 _) hk31 hm0.size
  replace hg := hg.nw hs31
  replace hf := hf.nw hs31
  replace hu := hu.nw hs31
  replace ow30 := ow30.nw hs31
  replace hm0 := hm0.tr hs31
  have hz4 := hs31.size
  have hle_or31 := or31.le
  refine LR.v (Y.move rfl rfl) (Wd.u rfl) rfl rfl ?_
  refine LR.v (Y.cast (v2 := s31.v) (Y.extract rfl rfl rfl) (rfl)) (Wd.u rfl) rfl rfl ?_
  refine LR.v (Y.cast (v2 := .int .i64 (e31 : Int)) (Y.extract rfl rfl rfl) (rfl)) (Wd.u rfl) rfl rfl ?_
  refine LR.v (Y.assign rfl rfl) (Wd.u rfl) rfl rfl ?_
  refine LR.v (Y.assign rfl rfl) (Wd.u rfl) rfl rfl ?_
  refine LR.nil ?_
  refine hK2 _ _ ?_
  refine CW.seq (fun K3 hK3 hE3 => ?_)
  refine CW.seq (fun K4 hK4 hE4 => ?_)
  refine CW.region ?_
  refine LR.v (Y.move rfl rfl) (Wd.u rfl) rfl rfl ?_
  refine LR.v (Y.neq rfl rfl rfl) (Wd.u rfl) rfl rfl ?_
  refine LR.nil ?_
  refine hK4 _ _ ?_
  refine CW.condp rfl (fun c35 => ?_) (fun c35 => ?_)
  ·
    refine CW.seq (fun K5 hK5 hE5 => ?_)
    refine CW.region ?_
    refine LR.v (Y.move rfl rfl) (Wd.u rfl) rfl rfl ?_
    refine LR.v (Y.assign rfl rfl) (Wd.u rfl) rfl rfl ?_
    refine LR.v (Y.assign rfl rfl) (Wd.u rfl) rfl rfl ?_
    refine LR.nil ?_
    refine hK5 _ _ ?_
    refine CW.ret (hE3 .ret nofun _ _ (hret .ret (.inr rfl) _ _ _ (res2 rfl rfl rfl) ?_))
    exact ⟨⟨none, 0, 0⟩, 0, [], e31, rfl, Ow.nil fA_len fA_one, Nx.refl _ _, ⟨UpsR.tld hU31, fun _ => rfl, fun h => absurd h (by omega)⟩, by simp, hm0⟩
  ·
    obtain rfl : e31 = 0 := by omega
    have hT31 := UpsR.tld hU31
    refine CW.skip ?_
    refine hK3 _ _ ?_
    refine CW.seq (fun K6 hK6 hE6 => ?_)
    refine CW.region ?_
    refine LR.v (Y.move rfl rfl) (Wd.u rfl) rfl rfl ?_
    refine LR.v (Y.move rfl rfl) (Wd.u rfl) rfl rfl ?_
    -- call (*selvage/selvageref11.Graph).Ups
    refine LR.call rfl Try.call34 rfl (Wd.u rfl) rfl rfl (ups_ct gb nl nd F vf fr w0 _ hg (bf_hg.mono (by omega)) hf.any (by omega) hnd) (fun v40 H40 r40 => ?_)
    obtain ⟨s40, k40, l40, e40, rfl, or40, hk40, hU40, hl40, hs40⟩ := r40
    have df18 := DF.app (DF.z) (bf_hg.mono hm0.size) hk40
    have df19 := DF.app (DF.z) (bf_hf.mono hm0.size) hk40
    have df20 := DF.app (DF.z) (bf_hu.mono hm0.size) hk40
    have dj21 : Dj k31 k40 := Dj.app (Dj.z) or31.le hk40
    have nx22 : Nx 0 H0.size k40 := Nx.tr (Nx.refl 0 _) hk40 hm0.size
    replace hg := hg.nw hs40
    replace hf := hf.nw hs40
    replace hu := hu.nw hs40
    replace or31 := or31.nw hs40
    replace hm0 := hm0.tr hs40
    have hz5 := hs40.size
    have hle_or40 := or40.le
    refine LR.v (Y.move rfl rfl) (Wd.u rfl) rfl rfl ?_
    refine LR.v (Y.cast (v2 := s40.v) (Y.extract rfl rfl rfl) (rfl)) (Wd.u rfl) rfl rfl ?_
    refine LR.v (Y.cast (v2 := .int .i64 (e40 : Int)) (Y.extract rfl rfl rfl) (rfl)) (Wd.u rfl) rfl rfl ?_
    refine LR.v (Y.assign rfl rfl) (Wd.u rfl) rfl rfl ?_
    refine LR.v (Y.assign rfl rfl) (Wd.u rfl) rfl rfl ?_
    refine LR.nil ?_
    refine hK6 _ _ ?_
    refine CW.seq (fun K7 hK7 hE7 => ?_)
    refine CW.region ?_
    refine LR.v (Y.move rfl rfl) (Wd.u rfl) rfl rfl ?_
    refine LR.v (Y.move rfl rfl) (Wd.u rfl) rfl rfl ?_
    -- call (*selvage/selvageref11.Graph).Ups
    refine LR.call rfl Try.call34 rfl (Wd.u rfl) rfl rfl (ups_ct gb nl nd F vu un w0 _ hg (bf_hg.mono (by omega)) hu.any (by omega) hnd) (fun v46 H46 r46 => ?_)
    obtain ⟨s46, k46, l46, e46, rfl, or46, hk46, hU46, hl46, hs46⟩ := r46
    have df23 := DF.app (DF.z) (bf_hg.mono hm0.size) hk46
    have df24 := DF.app (DF.z) (bf_hf.mono hm0.size) hk46
    have df25 := DF.app (DF.z) (bf_hu.mono hm0.size) hk46
    have dj26 : Dj k31 k46 := Dj.app (Dj.z) or31.le hk46
    have dj27 : Dj k40 k46 := Dj.app (Dj.z) or40.le hk46
    have nx28 : Nx 0 H0.size k46 := Nx.tr (Nx.refl 0 _) hk46 hm0.size
    replace hg := hg.nw hs46
    replace hf := hf.nw hs46
    replace hu := hu.nw hs46
    replace or31 := or31.nw hs46
    replace or40 := or40.nw hs46
    replace hm0 := hm0.tr hs46
    have hz6 := hs46.size
    have hle_or46 := or46.le
    refine LR.v (Y.move rfl rfl) (Wd.u rfl) rfl rfl ?_
    refine LR.v (Y.cast (v2 := s46.v) (Y.extract rfl rfl rfl) (rfl)) (Wd.u rfl) rfl rfl ?_
    refine LR.v (Y.cast (v2 := .int .i64 (e46 : Int)) (Y.extract rfl rfl rfl) (rfl)) (Wd.u rfl) rfl rfl ?_
    refine LR.v (Y.assign rfl rfl) (Wd.u rfl) rfl rfl ?_
    refine LR.v (Y.assign rfl rfl) (Wd.u rfl) rfl rfl ?_
    refine LR.nil ?_
    refine hK7 _ _ ?_
    refine CW.seq (fun K8 hK8 hE8 => ?_)
    refine CW.region ?_
    refine LR.v (Y.assign rfl rfl) (Wd.u rfl) rfl rfl ?_
    refine LR.v (Y.assign rfl rfl) (Wd.u rfl) rfl rfl ?_
    refine LR.nil ?_
    refine hK8 _ _ ?_
    refine CW.seq (fun K9 hK9 hE9 => ?_)
    refine CW.seq (fun K10 hK10 hE10 => ?_)
    refine CW.region ?_
    refine LR.v (Y.assign rfl rfl) (Wd.u rfl) rfl rfl ?_
    refine LR.nil ?_
    refine hK10 _ _ ?_
    refine CW.block (fun K11 hK11 hX11 hE11 => ?_)
    refine CW.loop (fun (s_ : (Nat) × (Value) × (Nat)) => match s_ with | (i, vL, kL) => [(0, .pointer (some ⟨gb, 0, none⟩)), (10, s40.v), (12, s46.v), (14, vL), (15, .slice none 0 0), (16, .int .i64 (i : Int))])
      (fun (s_ : (Nat) × (Value) × (Nat)) (H : Heap) => match s_ with | (i, vL, kL) => (i ≤ l40.length) ∧ (Ow kL 30 H fA 32 vL ((l40.take i).filter (fun k => decide (k ∉ l46)))) ∧ (Nx 0 H46.size kL) ∧ Nw H46 H)
      (fun (s_ : (Nat) × (Value) × (Nat)) => match s_ with | (i, vL, kL) => l40.length - i) (0, .slice none 0 0, 0) ⟨rfl, rfl, rfl, rfl, rfl, rfl, trivial⟩ ?_ ?_
    ·
      exact ⟨(by omega), Ow.nil fA_len fA_one, Nx.refl _ _, Mo.refl _ _⟩
    rintro ⟨i, vL, kL⟩ HL1 hI1 K12 hN12 hE12
    obtain ⟨hi, oL, nxl_oL, hlm1⟩ := hI1
    have df29 := DF.app (DF.z) (bf_hg.mono hm0.size) nxl_oL
    have df30 := DF.app (DF.z) (bf_hf.mono hm0.size) nxl_oL
    have df31 := DF.app (DF.z) (bf_hu.mono hm0.size) nxl_oL
    have dj32 : Dj k31 kL := Dj.app (Dj.z) or31.le nxl_oL
    have dj33 : Dj k40 kL := Dj.app (Dj.z) or40.le nxl_oL
    have dj34 : Dj k46 kL := Dj.app (Dj.z) or46.le nxl_oL
    have nx35 : Nx 0 H0.size kL := Nx.tr (Nx.refl 0 _) nxl_oL hm0.size
    replace hg := hg.nw hlm1
    replace hf := hf.nw hlm1
    replace hu := hu.nw hlm1
    replace or31 := or31.nw hlm1
    replace or40 := or40.nw hlm1
    replace or46 := or46.nw hlm1
    replace hm0 := hm0.tr hlm1
    have hz7 := hlm1.size
    have hle_oL := oL.le
    have nx36 := nxl_oL
    refine CW.seq (fun K13 hK13 hE13 => ?_)
    refine CW.seq (fun K14 hK14 hE14 => ?_)
    refine CW.region ?_
    refine LR.v (Y.move rfl rfl) (Wd.u rfl) rfl rfl ?_
    refine LR.v (Y.move rfl rfl) (Wd.u rfl) rfl rfl ?_
    refine LR.v (Y.len or40.rd rfl Try.runUnderlying28 rfl) (Wd.u rfl) rfl rfl ?_
    refine LR.v (Y.lss rfl rfl rfl) (Wd.u rfl) rfl rfl ?_
    refine LR.nil ?_
    refine hK14 _ _ ?_
    refine CW.condp rfl (fun c52 => ?_) (fun c52 => ?_)
    ·
      have hil : i < l40.length := by omega
      obtain ⟨y, hy⟩ : ∃ y, y = l40[i] := ⟨_, rfl⟩
      have hfl9 := filt_len (l := l40) (p := fun k => decide (k ∉ l46)) (i := i)
      refine CW.skip ?_
      refine hK13 _ _ ?_
      refine CW.seq (fun K15 hK15 hE15 => ?_)
      refine CW.block (fun K16 hK16 hX16 hE16 => ?_)
      refine CW.seq (fun K17 hK17 hE17 => ?_)
      refine CW.region ?_
      refine LR.v (Y.move rfl rfl) (Wd.u rfl) rfl rfl ?_
      refine LR.v (Y.move rfl rfl) (Wd.u rfl) rfl rfl ?_
      refine LR.v (Y.move rfl rfl) (Wd.u rfl) rfl rfl ?_
      refine LR.v (Y.owAddr or40 (i) rfl Try.runUnderlying28 Try.sizeOf30 rfl rfl (by first | rfl | omega) (by omega)) (Wd.u rfl) rfl rfl ?_
      refine LR.v (Y.cast (v2 := vA y) (Y.loadN (or40.pt (j := i) (by omega)) rfl Try.isAgg30 Try.sizeOf30 (fA_len _) rfl) (by rw [hy]; rfl)) (Wd.u rfl) rfl rfl ?_
      -- call selvage/selvageref1.Has
      refine LR.call rfl Try.call35 rfl (Wd.u rfl) rfl rfl (rhas_ct _ l46 y w0 _ or46.rd.any) (fun v60 H60 r60 => ?_)
      obtain ⟨rfl, hs60⟩ := r60
      replace hg := hg.nw hs60
      replace hf := hf.nw hs60
      replace hu := hu.nw hs60
      replace or31 := or31.nw hs60
      replace or40 := or40.nw hs60
      replace or46 := or46.nw hs60
      replace oL := oL.nw hs60
      replace hm0 := hm0.tr hs60
      replace hlm1 := hlm1.tr hs60
      have hz8 := hs60.size
      refine LR.v (Y.notp rfl rfl) (Wd.u rfl) rfl rfl ?_
      refine LR.nil ?_
      refine hK17 _ _ ?_
      refine CW.condp rfl (fun c61 => ?_) (fun c61 => ?_)
      ·
        refine CW.region ?_
        refine LR.v (Y.move rfl rfl) (Wd.u rfl) rfl rfl ?_
        refine LR.v (Y.move rfl rfl) (Wd.u rfl) rfl rfl ?_
        refine LR.v (Y.move rfl rfl) (Wd.u rfl) rfl rfl ?_
        refine LR.v (Y.owAddr or40 (i) rfl Try.runUnderlying28 Try.sizeOf30 rfl rfl (by first | rfl | omega) (by omega)) (Wd.u rfl) rfl rfl ?_
        refine LR.v (Y.cast (v2 := vA y) (Y.loadN (or40.pt (j := i) (by omega)) rfl Try.isAgg30 Try.sizeOf30 (fA_len _) rfl) (by rw [hy]; rfl)) (Wd.u rfl) rfl rfl ?_
        refine LR.z (Z.litw _ ([y]) rfl inf28 rfl rfl rfl (by decide) (by decide) fA_len fA_one (rfl)) (Wd.u rfl) rfl rfl (fun v67 H67 r67 => ?_)
        obtain ⟨ow67, hs67, ob67, hH67⟩ := r67
        have hzs67 : H67.size = H60.size + 1 := by rw [hH67]; simp
        have df37 := (DF.new (bf_hg.mono hm0.size) : DF _ (H60.size + 1))
        have df38 := (DF.new (bf_hf.mono hm0.size) : DF _ (H60.size + 1))
        have df39 := (DF.new (bf_hu.mono hm0.size) : DF _ (H60.size + 1))
        have dj40 : Dj k31 (H60.size + 1) := Dj.new or31.le
        have dj41 : Dj k40 (H60.size + 1) := Dj.new or40.le
        have dj42 : Dj k46 (H60.size + 1) := Dj.new or46.le
        have dj43 : Dj kL (H60.size + 1) := Dj.new oL.le
        have nx44 : Nx 0 H0.size (H60.size + 1) := Nx.new hm0.size
        have nx45 : Nx 0 H46.size (H60.size + 1) := Nx.new hlm1.size
        replace hg := hg.nw hs67
        replace hf := hf.nw hs67
        replace hu := hu.nw hs67
        replace or31 := or31.nw hs67
        replace or40 := or40.nw hs67
        replace or46 := or46.nw hs67
        replace oL := oL.nw hs67
        replace hm0 := hm0.tr hs67
        replace hlm1 := hlm1.tr hs67
        have hz9 := hs67.size
        refine LR.z (Z.apnd oL ow67.rd rfl inf28 rfl rfl (by rw [List.length_singleton]; omega) (by rw [List.length_singleton]; omega)) (Wd.u rfl) rfl rfl (fun v68 H68 r68 => ?_)
        obtain ⟨k68, oL, hk68, hs68⟩ := r68
        replace hk68 : Nx kL H67.size k68 := hk68
        replace hs68 := hs68.md
        have df46 := DF.app (df29) (bf_hg.mono hm0.size) hk68
        have df47 := DF.app (df30) (bf_hf.mono hm0.size) hk68
        have df48 := DF.app (df31) (bf_hu.mono hm0.size) hk68
        have dj49 : Dj k31 k68 := Dj.app (dj32) or31.le hk68
        have dj50 : Dj k40 k68 := Dj.app (dj33) or40.le hk68
        have dj51 : Dj k46 k68 := Dj.app (dj34) or46.le hk68
        have dj52 : Dj (H60.size + 1) k68 := Dj.app (dj43.symm) ow67.le hk68
        have nx53 : Nx 0 H0.size k68 := Nx.tr (nx35) hk68 hm0.size
        have nx54 : Nx 0 H46.size k68 := Nx.tr (nx36) hk68 hlm1.size
        replace hg := hg.upL hs68 (DFL.cons df29 DFL.nil)
        replace hf := hf.upL hs68 (DFL.cons df30 DFL.nil)
        replace hu := hu.upL hs68 (DFL.cons df31 DFL.nil)
        replace or31 := or31.upL hs68 (DL.cons dj32 DL.nil)
        replace or40 := or40.upL hs68 (DL.cons dj33 DL.nil)
        replace or46 := or46.upL hs68 (DL.cons dj34 DL.nil)
        replace ow67 := ow67.upL hs68 (DL.cons dj43.symm DL.nil)
        replace hm0 := (Mo.trL (ks := []) (hm0.mdn []) hs68 (MIL.cons (MI.app MI.z (nx35) (Nat.le_refl _)) MIL.nil)).nil
        replace hlm1 := (Mo.trL (ks := []) (hlm1.mdn []) hs68 (MIL.cons (MI.app MI.z (nx36) (Nat.le_refl _)) MIL.nil)).nil
        have hz10 := hs68.size
        have hle_oL := oL.le
        refine LR.v (Y.assign rfl rfl) (Wd.u rfl) rfl rfl ?_
        refine LR.nil ?_
        refine hK16 _ _ ?_
        refine hK15 _ _ ?_
        refine CW.region ?_
        refine LR.v (Y.move rfl rfl) (Wd.u rfl) rfl rfl ?_
        refine LR.v (Y.addi rfl rfl rfl (by omega)) (Wd.u rfl) rfl rfl ?_
        refine LR.v (Y.assign rfl rfl) (Wd.u rfl) rfl rfl ?_
        refine LR.nil ?_
        refine QN.sub (hN12 (i + 1, v68, k68) _ ?_ ?_) ⟨rfl, rfl, rfl, rfl, rfl, (iv (by omega)), trivial⟩
        · exact ⟨(by omega), by rw [filt_take hil, if_pos (by rw [← hy]; simpa using c61), ← hy]; exact oL, nx54, hlm1⟩
        · first | omega | (simp only; omega) | (simp; omega)
      ·
        refine CW.skip ?_
        refine hK16 _ _ ?_
        refine hK15 _ _ ?_
        refine CW.region ?_
        refine LR.v (Y.move rfl rfl) (Wd.u rfl) rfl rfl ?_
        refine LR.v (Y.addi rfl rfl rfl (by omega)) (Wd.u rfl) rfl rfl ?_
        refine LR.v (Y.assign rfl rfl) (Wd.u rfl) rfl rfl ?_
        refine LR.nil ?_
        refine QN.sub (hN12 (i + 1, vL, kL) _ ?_ ?_) ⟨rfl, rfl, rfl, rfl, rfl, (iv (by omega)), trivial⟩
        · exact ⟨(by omega), by rw [filt_take hil, if_neg (by rw [← hy]; simpa using c61), List.append_nil]; exact oL, nx36, hlm1⟩
        · first | omega | (simp only; omega) | (simp; omega)
    ·
      have hSl : (l40.filter (fun k => decide (k ∉ l46))).length ≤ 1000 := Nat.le_trans (List.length_filter_le _ _) hl40
      obtain ⟨hr40, hm40⟩ := UpsR.sub hU40 hT31 (fun k ⟨i, hi, hu⟩ => ⟨i, List.mem_append_left _ hi, hu⟩)
      obtain ⟨_, hm46⟩ := UpsR.sub hU46 hT31 (fun k ⟨i, hi, hu⟩ => ⟨i, List.mem_append_right _ hi, hu⟩)
      rw [List.take_of_length_le (show l40.length ≤ i by omega)] at oL
      refine CW.exit (hE13 (.exit 0) nofun _ _ (hE12 (.exit 0) nofun _ _ (hX11 _ _ ?_)))
      refine hK9 _ _ ?_
      refine CW.seq (fun K18 hK18 hE18 => ?_)
      refine CW.block (fun K19 hK19 hX19 hE19 => ?_)
      refine CW.loop (fun (s_ : (List Ide) × (Value) × (Nat) × (List Ide) × (Value) × (Nat)) => match s_ with | (left, vR, kR, out, vo, ko) => [(0, .pointer (some ⟨gb, 0, none⟩)), (14, vR), (15, vo)])
        (fun (s_ : (List Ide) × (Value) × (Nat) × (List Ide) × (Value) × (Nat)) (H : Heap) => match s_ with | (left, vR, kR, out, vo, ko) => (Ow kR 30 H fA 32 vR left) ∧ (Ow ko 30 H fA 32 vo out) ∧ (DOr (pp (paR nd)) (l40.filter (fun k => decide (k ∉ l46))) left out) ∧ (Nx kL HL1.size kR) ∧ (Nx 0 HL1.size ko) ∧ (Dj kR ko) ∧ Mo (Ms [kL]) HL1 H)
        (fun (s_ : (List Ide) × (Value) × (Nat) × (List Ide) × (Value) × (Nat)) => match s_ with | (left, vR, kR, out, vo, ko) => left.length) ((l40.filter (fun k => decide (k ∉ l46))), vL, kL, [], .slice none 0 0, 0) ⟨rfl, rfl, rfl, trivial⟩ ?_ ?_
      ·
        exact ⟨oL, Ow.nil fA_len fA_one, DOr.start (List.Pairwise.filter _ hr40), Nx.refl _ _, Nx.refl _ _, Dj.z, Mo.refl _ _⟩
      rintro ⟨left, vR, kR, out, vo, ko⟩ HL2 hI2 K20 hN20 hE20
      obtain ⟨oL, oo, hD, nxl_oL, nxl_oo, dj_oL_oo, hlm2⟩ := hI2
      have df55 := DF.app (df29) (bf_hg.mono hm0.size) nxl_oL
      have df56 := DF.app (df30) (bf_hf.mono hm0.size) nxl_oL
      have df57 := DF.app (df31) (bf_hu.mono hm0.size) nxl_oL
      have dj58 : Dj k31 kR := Dj.app (dj32) or31.le nxl_oL
      have dj59 : Dj k40 kR := Dj.app (dj33) or40.le nxl_oL
      have dj60 : Dj k46 kR := Dj.app (dj34) or46.le nxl_oL
      have nx61 : Nx 0 H0.size kR := Nx.tr (nx35) nxl_oL hm0.size
      have df62 := DF.app (DF.z) (bf_hg.mono hm0.size) nxl_oo
      have df63 := DF.app (DF.z) (bf_hf.mono hm0.size) nxl_oo
      have df64 := DF.app (DF.z) (bf_hu.mono hm0.size) nxl_oo
      have dj65 : Dj k31 ko := Dj.app (Dj.z) or31.le nxl_oo
      have dj66 : Dj k40 ko := Dj.app (Dj.z) or40.le nxl_oo
      have dj67 : Dj k46 ko := Dj.app (Dj.z) or46.le nxl_oo
      have nx68 : Nx 0 H0.size ko := Nx.tr (Nx.refl 0 _) nxl_oo hm0.size
      replace hg := hg.upL hlm2 (DFL.cons df29 DFL.nil)
      replace hf := hf.upL hlm2 (DFL.cons df30 DFL.nil)
      replace hu := hu.upL hlm2 (DFL.cons df31 DFL.nil)
      replace or31 := or31.upL hlm2 (DL.cons dj32 DL.nil)
      replace or40 := or40.upL hlm2 (DL.cons dj33 DL.nil)
      replace or46 := or46.upL hlm2 (DL.cons dj34 DL.nil)
      replace hm0 := (Mo.trL (ks := []) (hm0.mdn []) hlm2 (MIL.cons (MI.app MI.z (nx35) (Nat.le_refl _)) MIL.nil)).nil
      have hz11 := hlm2.size
      have hle_oL := oL.le
      have hle_oo := oo.le
      have dj69 := dj_oL_oo
      have nx70 := nxl_oL
      have nx71 := nxl_oo
      have hDl := hD.len
      refine CW.seq (fun K21 hK21 hE21 => ?_)
      refine CW.seq (fun K22 hK22 hE22 => ?_)
      refine CW.region ?_
      refine LR.v (Y.move rfl rfl) (Wd.u rfl) rfl rfl ?_
      refine LR.v (Y.len oL.rd rfl Try.runUnderlying28 rfl) (Wd.u rfl) rfl rfl ?_
      refine LR.v (Y.gtr rfl rfl rfl) (Wd.u rfl) rfl rfl ?_
      refine LR.nil ?_
      refine hK22 _ _ ?_
      refine CW.condp rfl (fun c71 => ?_) (fun c71 => ?_)
      ·
        refine CW.skip ?_
        refine hK21 _ _ ?_
        refine CW.block (fun K23 hK23 hX23 hE23 => ?_)
        refine CW.seq (fun K24 hK24 hE24 => ?_)
        refine CW.region ?_
        refine LR.v (Y.assign rfl rfl) (Wd.u rfl) rfl rfl ?_
        refine LR.nil ?_
        refine hK24 _ _ ?_
        refine CW.cut (fun (a : (Int)) => [(0, .pointer (some ⟨gb, 0, none⟩)), (14, vR), (15, vo), (17, .int .i64 a)])
          (fun (a : (Int)) (H : Heap) => ((∃ z : Nat, a = (z : Int) ∧ ∃ h : z < left.length, RdyP (pp (paR nd)) left left[z] ∧ ∀ j (h : j < left.length), j < z → ¬ RdyP (pp (paR nd)) left left[j])) ∧ Nw HL2 H) (fun K25 hK25 hE25 => ?_) ?_
        ·
          have hcm25 : Nw HL2 HL2 := Mo.refl _ _
          refine CW.seq (fun K26 hK26 hE26 => ?_)
          refine CW.region ?_
          refine LR.v (Y.assign rfl rfl) (Wd.u rfl) rfl rfl ?_
          refine LR.nil ?_
          refine hK26 _ _ ?_
          refine CW.block (fun K27 hK27 hX27 hE27 => ?_)
          refine CW.loop (fun (s_ : (Nat) × (Int)) => match s_ with | (i, a) => [(0, .pointer (some ⟨gb, 0, none⟩)), (14, vR), (15, vo), (17, .int .i64 a), (18, .int .i64 (i : Int))])
            (fun (s_ : (Nat) × (Int)) (H : Heap) => match s_ with | (i, a) => (i ≤ left.length) ∧ ((a = -1 ∧ ∀ j (h : j < left.length), j < i → ¬ RdyP (pp (paR nd)) left left[j]) ∨ (∃ z : Nat, a = (z : Int) ∧ ∃ h : z < left.length, RdyP (pp (paR nd)) left left[z] ∧ ∀ j (h : j < left.length), j < z → ¬ RdyP (pp (paR nd)) left left[j])) ∧ Nw HL2 H)
            (fun (s_ : (Nat) × (Int)) => match s_ with | (i, a) => left.length - i) (0, -1) ⟨rfl, rfl, rfl, rfl, rfl, trivial⟩ ?_ ?_
          ·
            exact ⟨(by omega), .inl ⟨rfl, fun j h h2 => by omega⟩, Mo.refl _ _⟩
          rintro ⟨i, a⟩ HL3 hI3 K28 hN28 hE28
          obtain ⟨hi, ha, hlm3⟩ := hI3
          replace hg := hg.nw hlm3
          replace hf := hf.nw hlm3
          replace hu := hu.nw hlm3
          replace or31 := or31.nw hlm3
          replace or40 := or40.nw hlm3
          replace or46 := or46.nw hlm3
          replace oL := oL.nw hlm3
          replace oo := oo.nw hlm3
          replace hm0 := hm0.tr hlm3
          replace hlm2 := hlm2.trN hlm3
          replace hcm25 := hcm25.tr hlm3
          have hz12 := hlm3.size
          refine CW.seq (fun K29 hK29 hE29 => ?_)
          refine CW.seq (fun K30 hK30 hE30 => ?_)
          refine CW.region ?_
          refine LR.v (Y.move rfl rfl) (Wd.u rfl) rfl rfl ?_
          refine LR.v (Y.move rfl rfl) (Wd.u rfl) rfl rfl ?_
          refine LR.v (Y.len oL.rd rfl Try.runUnderlying28 rfl) (Wd.u rfl) rfl rfl ?_
          refine LR.v (Y.lss rfl rfl rfl) (Wd.u rfl) rfl rfl ?_
          refine LR.v (Y.move rfl rfl) (Wd.u rfl) rfl rfl ?_
          refine LR.splitp (d := 76) rfl (fun g76 => ?_) (fun g76 => ?_)
          ·
            refine LR.v (Y.move rfl rfl) (Wd.g rfl rfl rfl) rfl rfl ?_
            refine LR.v (Y.lss rfl rfl rfl) (Wd.g rfl rfl rfl) rfl rfl ?_
            refine LR.v (Y.pick_t rfl rfl rfl) (Wd.u rfl) rfl rfl ?_
            refine LR.nil ?_
            refine hK30 _ _ ?_
            refine CW.condp rfl (fun c79 => ?_) (fun c79 => ?_)
            ·
              have hil : i < left.length := by omega
              have hai := ha.resolve_right (fun ⟨z, hz, _⟩ => by omega)
              obtain ⟨x, hx⟩ : ∃ x, x = left[i] := ⟨_, rfl⟩
              refine CW.skip ?_
              refine hK29 _ _ ?_
              refine CW.seq (fun K31 hK31 hE31 => ?_)
              refine CW.block (fun K32 hK32 hX32 hE32 => ?_)
              refine CW.seq (fun K33 hK33 hE33 => ?_)
              refine CW.region ?_
              refine LR.v (Y.move rfl rfl) (Wd.u rfl) rfl rfl ?_
              refine LR.v (Y.move rfl rfl) (Wd.u rfl) rfl rfl ?_
              refine LR.v (Y.move rfl rfl) (Wd.u rfl) rfl rfl ?_
              refine LR.v (Y.owAddr oL (i) rfl Try.runUnderlying28 Try.sizeOf30 rfl rfl (by first | rfl | omega) (by omega)) (Wd.u rfl) rfl rfl ?_
              refine LR.v (Y.cast (v2 := vA x) (Y.loadN (oL.pt (j := i) (by omega)) rfl Try.isAgg30 Try.sizeOf30 (fA_len _) rfl) (by rw [hx]; rfl)) (Wd.u rfl) rfl rfl ?_
              -- call (*selvage/selvageref11.Graph).parents
              refine LR.call rfl Try.call36 rfl (Wd.u rfl) rfl rfl (rpar_ct gb nl nd x F w0 _ hg (bf_hg.mono (by omega))) (fun v88 H88 r88 => ?_)
              obtain ⟨sp, ps, b88, rfl, hp88, hr88, hs88⟩ := r88
              replace hg := hg.nw hs88
              replace hf := hf.nw hs88
              replace hu := hu.nw hs88
              replace or31 := or31.nw hs88
              replace or40 := or40.nw hs88
              replace or46 := or46.nw hs88
              replace oL := oL.nw hs88
              replace oo := oo.nw hs88
              replace hm0 := hm0.tr hs88
              replace hlm2 := hlm2.trN hs88
              replace hcm25 := hcm25.tr hs88
              replace hlm3 := hlm3.tr hs88
              have hz13 := hs88.size
              have bf_hr88 := bf_hg
              have hpp : pp (paR nd) x = ps := by
                unfold pp
                rcases hp88 with h | h
                · rw [h.2]; rfl
                · rw [h.2.1, h.2.2]; rfl
              have hpsl := hr88.len
              refine LR.v (Y.move rfl rfl) (Wd.u rfl) rfl rfl ?_
              refine LR.v (Y.cast (v2 := sp.v) (Y.extract rfl rfl rfl) (rfl)) (Wd.u rfl) rfl rfl ?_
              refine LR.v (Y.cast (v2 := .bool b88) (Y.extract rfl rfl rfl) (rfl)) (Wd.u rfl) rfl rfl ?_
              refine LR.v (Y.assign rfl rfl) (Wd.u rfl) rfl rfl ?_
              refine LR.v (Y.assign rfl rfl) (Wd.u rfl) rfl rfl ?_
              refine LR.nil ?_
              refine hK33 _ _ ?_
              refine CW.seq (fun K34 hK34 hE34 => ?_)
              refine CW.region ?_
              refine LR.v (Y.assign rfl rfl) (Wd.u rfl) rfl rfl ?_
              refine LR.nil ?_
              refine hK34 _ _ ?_
              refine CW.seq (fun K35 hK35 hE35 => ?_)
              refine CW.seq (fun K36 hK36 hE36 => ?_)
              refine CW.region ?_
              refine LR.v (Y.assign rfl rfl) (Wd.u rfl) rfl rfl ?_
              refine LR.nil ?_
              refine hK36 _ _ ?_
              refine CW.block (fun K37 hK37 hX37 hE37 => ?_)
              refine CW.loop (fun (s_ : (Nat) × (Bool)) => match s_ with | (k, rd) => [(0, .pointer (some ⟨gb, 0, none⟩)), (14, vR), (15, vo), (17, .int .i64 a), (18, .int .i64 (i : Int)), (19, sp.v), (21, .bool rd), (22, .int .i64 (k : Int))])
                (fun (s_ : (Nat) × (Bool)) (H : Heap) => match s_ with | (k, rd) => (k ≤ ps.length) ∧ (rd = true ↔ ∀ p ∈ ps.take k, p ∉ left) ∧ Nw H88 H)
                (fun (s_ : (Nat) × (Bool)) => match s_ with | (k, rd) => ps.length - k) (0, true) ⟨rfl, rfl, rfl, rfl, rfl, rfl, rfl, rfl, trivial⟩ ?_ ?_
              ·
                exact ⟨(by omega), by simp, Mo.refl _ _⟩
              rintro ⟨k, rd⟩ HL4 hI4 K38 hN38 hE38
              obtain ⟨hk, hrd, hlm4⟩ := hI4
              replace hg := hg.nw hlm4
              replace hf := hf.nw hlm4
              replace hu := hu.nw hlm4
              replace or31 := or31.nw hlm4
              replace or40 := or40.nw hlm4
              replace or46 := or46.nw hlm4
              replace oL := oL.nw hlm4
              replace oo := oo.nw hlm4
              replace hr88 := hr88.nw hlm4
              replace hm0 := hm0.tr hlm4
              replace hlm2 := hlm2.trN hlm4
              replace hcm25 := hcm25.tr hlm4
              replace hlm3 := hlm3.tr hlm4
              have hz14 := hlm4.size
              refine CW.seq (fun K39 hK39 hE39 => ?_)
              refine CW.seq (fun K40 hK40 hE40 => ?_)
              refine CW.region ?_
              refine LR.v (Y.move rfl rfl) (Wd.u rfl) rfl rfl ?_
              refine LR.v (Y.move rfl rfl) (Wd.u rfl) rfl rfl ?_
              refine LR.v (Y.len hr88 rfl Try.runUnderlying28 rfl) (Wd.u rfl) rfl rfl ?_
              refine LR.v (Y.lss rfl rfl rfl) (Wd.u rfl) rfl rfl ?_
              refine LR.nil ?_
              refine hK40 _ _ ?_
              refine CW.condp rfl (fun c94 => ?_) (fun c94 => ?_)
              ·
                refine CW.skip ?_
                refine hK39 _ _ ?_
                refine CW.seq (fun K41 hK41 hE41 => ?_)
                refine CW.block (fun K42 hK42 hX42 hE42 => ?_)
                refine CW.region ?_
                refine LR.v (Y.move rfl rfl) (Wd.u rfl) rfl rfl ?_
                refine LR.v (Y.move rfl rfl) (Wd.u rfl) rfl rfl ?_
                refine LR.split (d := 98) rfl (fun g98 => ?_) (fun g98 => ?_)
                ·
                  have hkl : k < ps.length := by omega
                  obtain ⟨p, hp⟩ : ∃ p, p = ps[k] := ⟨_, rfl⟩
                  refine LR.v (Y.move rfl rfl) (Wd.g rfl rfl rfl) rfl rfl ?_
                  refine LR.v (Y.move rfl rfl) (Wd.g rfl rfl rfl) rfl rfl ?_
                  refine LR.v (Y.move rfl rfl) (Wd.g rfl rfl rfl) rfl rfl ?_
                  refine LR.e (g := fun ad => .pointer (some ad)) (Y.indexAddrF hr88 (k) rfl Try.runUnderlying28 Try.sizeOf30 rfl rfl (by first | rfl | omega) (by omega)) (Wd.g rfl rfl rfl) rfl rfl (fun ad102 pt102 => ?_)
                  have bf_pt102 := bf_hr88
                  refine LR.v (Y.cast (v2 := vA p) (Y.loadN pt102.pt rfl Try.isAgg30 Try.sizeOf30 (fA_len _) rfl) (by rw [hp]; rfl)) (Wd.g rfl rfl rfl) rfl rfl ?_
                  -- call selvage/selvageref1.Has
                  refine LR.call rfl Try.call35 rfl (Wd.g rfl rfl rfl) rfl rfl (rhas_ct _ left p w0 _ oL.rd.any) (fun v104 H104 r104 => ?_)
                  obtain ⟨rfl, hs104⟩ := r104
                  replace hg := hg.nw hs104
                  replace hf := hf.nw hs104
                  replace hu := hu.nw hs104
                  replace or31 := or31.nw hs104
                  replace or40 := or40.nw hs104
                  replace or46 := or46.nw hs104
                  replace oL := oL.nw hs104
                  replace oo := oo.nw hs104
                  replace hr88 := hr88.nw hs104
                  replace pt102 := pt102.nw hs104
                  replace hm0 := hm0.tr hs104
                  replace hlm2 := hlm2.trN hs104
                  replace hcm25 := hcm25.tr hs104
                  replace hlm3 := hlm3.tr hs104
                  replace hlm4 := hlm4.tr hs104
                  have hz15 := hs104.size
                  refine LR.v (Y.notp rfl rfl) (Wd.g rfl rfl rfl) rfl rfl ?_
                  refine LR.v (Y.pick_t rfl rfl rfl) (Wd.u rfl) rfl rfl ?_
                  refine LR.v (Y.assign rfl rfl) (Wd.u rfl) rfl rfl ?_
                  refine LR.nil ?_
                  refine hK42 _ _ ?_
                  refine hK41 _ _ ?_
                  refine CW.region ?_
                  refine LR.v (Y.move rfl rfl) (Wd.u rfl) rfl rfl ?_
                  refine LR.v (Y.addi rfl rfl rfl (by omega)) (Wd.u rfl) rfl rfl ?_
                  refine LR.v (Y.assign rfl rfl) (Wd.u rfl) rfl rfl ?_
                  refine LR.nil ?_
                  refine QN.sub (hN38 (k + 1, decide (p ∉ left)) _ ?_ ?_) ⟨rfl, rfl, rfl, (iv (by omega)), (iv (by omega)), rfl, rfl, (iv (by omega)), trivial⟩
                  · exact ⟨(by omega), by rw [List.take_succ_eq_append_getElem hkl, ← hp, decide_eq_true_eq]; exact ⟨fun h q hq => (List.mem_append.1 hq).elim (hrd.1 g98 q) (fun e => by rw [List.mem_singleton.1 e]; exact h), fun h => h p (by simp)⟩, hlm4⟩
                  · first | omega | (simp only; omega) | (simp; omega)
                ·
                  refine LR.gs rfl rfl rfl rfl rfl rfl ?_
                  refine LR.gs rfl rfl rfl rfl rfl rfl ?_
                  refine LR.gs rfl rfl rfl rfl rfl rfl ?_
                  refine LR.gs rfl rfl rfl rfl rfl rfl ?_
                  refine LR.gs rfl rfl rfl rfl rfl rfl ?_
                  refine LR.gs rfl rfl rfl rfl rfl rfl ?_
                  refine LR.gs rfl rfl rfl rfl rfl rfl ?_
                  refine LR.v (Y.pick_f rfl rfl rfl) (Wd.u rfl) rfl rfl ?_
                  refine LR.v (Y.assign rfl rfl) (Wd.u rfl) rfl rfl ?_
                  refine LR.nil ?_
                  refine hK42 _ _ ?_
                  refine hK41 _ _ ?_
                  refine CW.region ?_
                  refine LR.v (Y.move rfl rfl) (Wd.u rfl) rfl rfl ?_
                  refine LR.v (Y.addi rfl rfl rfl (by omega)) (Wd.u rfl) rfl rfl ?_
                  refine LR.v (Y.assign rfl rfl) (Wd.u rfl) rfl rfl ?_
                  refine LR.nil ?_
                  refine QN.sub (hN38 (k + 1, false) _ ?_ ?_) ⟨rfl, rfl, rfl, (iv (by omega)), (iv (by omega)), rfl, rfl, (iv (by omega)), trivial⟩
                  · exact ⟨(by omega), by rw [List.take_succ_eq_append_getElem (show k < ps.length by omega)]; exact ⟨fun h => (by cases h), fun h => absurd (hrd.2 (fun q hq => h q (List.mem_append_left _ hq))) (by simpa using g98)⟩, hlm4⟩
                  · first | omega | (simp only; omega) | (simp; omega)
              ·
                refine CW.exit (hE39 (.exit 6) nofun _ _ (hE38 (.exit 6) nofun _ _ (hX37 _ _ ?_)))
                refine hK35 _ _ ?_
                refine CW.seq (fun K43 hK43 hE43 => ?_)
                refine CW.region ?_
                refine LR.v (Y.move rfl rfl) (Wd.u rfl) rfl rfl ?_
                refine LR.nil ?_
                refine hK43 _ _ ?_
                refine CW.cond rfl (fun c107 => ?_) (fun c107 => ?_)
                ·
                  refine CW.region ?_
                  refine LR.v (Y.move rfl rfl) (Wd.u rfl) rfl rfl ?_
                  refine LR.v (Y.assign rfl rfl) (Wd.u rfl) rfl rfl ?_
                  refine LR.nil ?_
                  refine hK32 _ _ ?_
                  refine hK31 _ _ ?_
                  refine CW.region ?_
                  refine LR.v (Y.move rfl rfl) (Wd.u rfl) rfl rfl ?_
                  refine LR.v (Y.addi rfl rfl rfl (by omega)) (Wd.u rfl) rfl rfl ?_
                  refine LR.v (Y.assign rfl rfl) (Wd.u rfl) rfl rfl ?_
                  refine LR.nil ?_
                  refine QN.sub (hN28 (i + 1, (i : Int)) _ ?_ ?_) ⟨rfl, rfl, rfl, (iv (by omega)), (iv (by omega)), trivial⟩
                  · exact ⟨(by omega), .inr ⟨i, rfl, hil, (by rw [← hx]; exact fun p hp => hrd.1 c107 p (by rw [List.take_of_length_le (by omega), ← hpp]; exact hp)), fun j h hj => hai.2 j h hj⟩, hlm3⟩
                  · first | omega | (simp only; omega) | (simp; omega)
                ·
                  refine CW.skip ?_
                  refine hK32 _ _ ?_
                  refine hK31 _ _ ?_
                  refine CW.region ?_
                  refine LR.v (Y.move rfl rfl) (Wd.u rfl) rfl rfl ?_
                  refine LR.v (Y.addi rfl rfl rfl (by omega)) (Wd.u rfl) rfl rfl ?_
                  refine LR.v (Y.assign rfl rfl) (Wd.u rfl) rfl rfl ?_
                  refine LR.nil ?_
                  refine QN.sub (hN28 (i + 1, a) _ ?_ ?_) ⟨rfl, rfl, rfl, (iv (by omega)), (iv (by omega)), trivial⟩
                  · exact ⟨(by omega), .inl ⟨hai.1, fun j h hj hr => by
                      by_cases h3 : j < i
                      · exact hai.2 j h h3 hr
                      · obtain rfl : j = i := by omega
                        exact absurd (hrd.2 (fun p hp => hr p (by rw [← hx, hpp]; exact List.mem_of_mem_take hp))) (by rw [c107]; simp)⟩, hlm3⟩
                  · first | omega | (simp only; omega) | (simp; omega)
            ·
              refine CW.exit (hE29 (.exit 4) nofun _ _ (hE28 (.exit 4) nofun _ _ (hX27 _ _ ?_)))
              refine QN.sub (hK25 a _ ?_) ⟨rfl, rfl, rfl, (iv (by omega)), trivial⟩
              exact ⟨ha.resolve_left (fun h => by omega), hcm25⟩
          ·
            refine LR.gs rfl rfl rfl rfl rfl rfl ?_
            refine LR.gs rfl rfl rfl rfl rfl rfl ?_
            refine LR.v (Y.pick_f rfl rfl rfl) (Wd.u rfl) rfl rfl ?_
            refine LR.nil ?_
            refine hK30 _ _ ?_
            refine CW.cond_f rfl ?_
            refine CW.exit (hE29 (.exit 4) nofun _ _ (hE28 (.exit 4) nofun _ _ (hX27 _ _ ?_)))
            refine QN.sub (hK25 a _ ?_) ⟨rfl, rfl, rfl, (iv (by omega)), trivial⟩
            exact ⟨ha.resolve_left (fun h => by
                  obtain ⟨j, hj, hr⟩ := DOr.some (left := left) (by omega) hac
                  exact h.2 j hj (by omega) hr), hcm25⟩
        ·
          intro a Hcut4 hIcut4
          obtain ⟨ha2, hlmcut4⟩ := hIcut4
          replace hg := hg.nw hlmcut4
          replace hf := hf.nw hlmcut4
          replace hu := hu.nw hlmcut4
          replace or31 := or31.nw hlmcut4
          replace or40 := or40.nw hlmcut4
          replace or46 := or46.nw hlmcut4
          replace oL := oL.nw hlmcut4
          replace oo := oo.nw hlmcut4
          replace hm0 := hm0.tr hlmcut4
          replace hlm2 := hlm2.trN hlmcut4
          have hz16 := hlmcut4.size
          refine CW.seq (fun K44 hK44 hE44 => ?_)
          refine CW.seq (fun K45 hK45 hE45 => ?_)
          refine CW.region ?_
          refine LR.v (Y.move rfl rfl) (Wd.u rfl) rfl rfl ?_
          refine LR.v (Y.lss rfl rfl rfl) (Wd.u rfl) rfl rfl ?_
          refine LR.nil ?_
          refine hK45 _ _ ?_
          refine CW.condp rfl (fun c110 => ?_) (fun c110 => ?_)
          ·
            obtain ⟨z, hz, _⟩ := ha2
            exfalso; omega
          ·
            obtain ⟨z, hz, hzl, hzr, hzn⟩ := ha2
            obtain ⟨q, hq⟩ : ∃ q, q = left[z] := ⟨_, rfl⟩
            refine CW.skip ?_
            refine hK44 _ _ ?_
            refine CW.seq (fun K46 hK46 hE46 => ?_)
            refine CW.region ?_
            refine LR.v (Y.move rfl rfl) (Wd.u rfl) rfl rfl ?_
            refine LR.v (Y.move rfl rfl) (Wd.u rfl) rfl rfl ?_
            refine LR.v (Y.move rfl rfl) (Wd.u rfl) rfl rfl ?_
            refine LR.v (Y.owAddr oL (z) rfl Try.runUnderlying28 Try.sizeOf30 rfl rfl hz (by omega)) (Wd.u rfl) rfl rfl ?_
            refine LR.v (Y.cast (v2 := vA q) (Y.loadN (oL.pt (j := z) (by omega)) rfl Try.isAgg30 Try.sizeOf30 (fA_len _) rfl) (by rw [hq]; rfl)) (Wd.u rfl) rfl rfl ?_
            refine LR.z (Z.litw _ ([q]) rfl inf28 rfl rfl rfl (by decide) (by decide) fA_len fA_one (rfl)) (Wd.u rfl) rfl rfl (fun v116 H116 r116 => ?_)
            obtain ⟨ow116, hs116, ob116, hH116⟩ := r116
            have hzs116 : H116.size = Hcut4.size + 1 := by rw [hH116]; simp
            have df72 := (DF.new (bf_hg.mono hm0.size) : DF _ (Hcut4.size + 1))
            have df73 := (DF.new (bf_hf.mono hm0.size) : DF _ (Hcut4.size + 1))
            have df74 := (DF.new (bf_hu.mono hm0.size) : DF _ (Hcut4.size + 1))
            have dj75 : Dj k31 (Hcut4.size + 1) := Dj.new or31.le
            have dj76 : Dj k40 (Hcut4.size + 1) := Dj.new or40.le
            have dj77 : Dj k46 (Hcut4.size + 1) := Dj.new or46.le
            have dj78 : Dj kR (Hcut4.size + 1) := Dj.new oL.le
            have dj79 : Dj ko (Hcut4.size + 1) := Dj.new oo.le
            have nx80 : Nx 0 H0.size (Hcut4.size + 1) := Nx.new hm0.size
            have nx81 : Nx 0 HL1.size (Hcut4.size + 1) := Nx.new hlm2.size
            replace hg := hg.nw hs116
            replace hf := hf.nw hs116
            replace hu := hu.nw hs116
            replace or31 := or31.nw hs116
            replace or40 := or40.nw hs116
            replace or46 := or46.nw hs116
            replace oL := oL.nw hs116
            replace oo := oo.nw hs116
            replace hm0 := hm0.tr hs116
            replace hlm2 := hlm2.trN hs116
            have hz17 := hs116.size
            refine LR.z (Z.apnd oo ow116.rd rfl inf28 rfl rfl (by rw [List.length_singleton]; omega) (by rw [List.length_singleton]; omega)) (Wd.u rfl) rfl rfl (fun v117 H117 r117 => ?_)
            obtain ⟨k117, oo, hk117, hs117⟩ := r117
            replace hk117 : Nx ko H116.size k117 := hk117
            replace hs117 := hs117.md
            have df82 := DF.app (df62) (bf_hg.mono hm0.size) hk117
            have df83 := DF.app (df63) (bf_hf.mono hm0.size) hk117
            have df84 := DF.app (df64) (bf_hu.mono hm0.size) hk117
            have dj85 : Dj k31 k117 := Dj.app (dj65) or31.le hk117
            have dj86 : Dj k40 k117 := Dj.app (dj66) or40.le hk117
            have dj87 : Dj k46 k117 := Dj.app (dj67) or46.le hk117
            have dj88 : Dj kR k117 := Dj.app (dj69) oL.le hk117
            have dj89 : Dj (Hcut4.size + 1) k117 := Dj.app (dj79.symm) ow116.le hk117
            have nx90 : Nx 0 H0.size k117 := Nx.tr (nx68) hk117 hm0.size
            have nx91 : Nx 0 HL1.size k117 := Nx.tr (nx71) hk117 hlm2.size
            replace hg := hg.upL hs117 (DFL.cons df62 DFL.nil)
            replace hf := hf.upL hs117 (DFL.cons df63 DFL.nil)
            replace hu := hu.upL hs117 (DFL.cons df64 DFL.nil)
            replace or31 := or31.upL hs117 (DL.cons dj65 DL.nil)
            replace or40 := or40.upL hs117 (DL.cons dj66 DL.nil)
            replace or46 := or46.upL hs117 (DL.cons dj67 DL.nil)
            replace oL := oL.upL hs117 (DL.cons dj69 DL.nil)
            replace ow116 := ow116.upL hs117 (DL.cons dj79.symm DL.nil)
            replace hm0 := (Mo.trL (ks := []) (hm0.mdn []) hs117 (MIL.cons (MI.app MI.z (nx68) (Nat.le_refl _)) MIL.nil)).nil
            replace hlm2 := hlm2.trL hs117 (MIL.cons (MI.app MI.z (nx71) (Nat.le_refl _)) MIL.nil)
            have hz18 := hs117.size
            have hle_oo := oo.le
            refine LR.v (Y.assign rfl rfl) (Wd.u rfl) rfl rfl ?_
            refine LR.nil ?_
            refine hK46 _ _ ?_
            refine CW.seq (fun K47 hK47 hE47 => ?_)
            refine CW.region ?_
            refine LR.v (Y.assign rfl rfl) (Wd.u rfl) rfl rfl ?_
            refine LR.nil ?_
            refine hK47 _ _ ?_
            refine CW.seq (fun K48 hK48 hE48 => ?_)
            refine CW.region ?_
            refine LR.v (Y.move rfl rfl) (Wd.u rfl) rfl rfl ?_
            refine LR.v (Y.move rfl rfl) (Wd.u rfl) rfl rfl ?_
            refine LR.v (Y.move rfl rfl) (Wd.u rfl) rfl rfl ?_
            refine LR.e (g := fun v => v) (Y.slice oL.rd (0) (z) rfl Try.runUnderlying28 Try.sizeOf30 rfl (.inl ⟨rfl, rfl⟩) (.inr ⟨_, _, _, rfl, rfl, by first | rfl | omega⟩) (by omega) (by omega)) (Wd.u rfl) rfl rfl (fun v121 rd121 => ?_)
            have bf_rd121 := BF.of oL.le
            have nl122 : Ow 0 30 H117 fA 32 (.slice none 0 0) [] := Ow.nil fA_len fA_one
            refine LR.z (Z.apnd nl122 rd121 rfl inf28 rfl rfl (by first | omega | (simp; omega)) (by first | omega | (simp; omega))) (Wd.u rfl) rfl rfl (fun v122 H122 r122 => ?_)
            obtain ⟨k122, oR, hk122, hs122⟩ := r122
            replace hk122 : Nx 0 H117.size k122 := hk122
            replace hs122 := hs122.md
            have df92 := DF.app (DF.z) (bf_hg.mono hm0.size) hk122
            have df93 := DF.app (DF.z) (bf_hf.mono hm0.size) hk122
            have df94 := DF.app (DF.z) (bf_hu.mono hm0.size) hk122
            have dj95 : Dj k31 k122 := Dj.app (Dj.z) or31.le hk122
            have dj96 : Dj k40 k122 := Dj.app (Dj.z) or40.le hk122
            have dj97 : Dj k46 k122 := Dj.app (Dj.z) or46.le hk122
            have dj98 : Dj kR k122 := Dj.app (Dj.z) oL.le hk122
            have dj99 : Dj k117 k122 := Dj.app (Dj.z) oo.le hk122
            have df100 := DF.app (DF.z) (bf_rd121.mono (by omega)) hk122
            have nx101 : Nx 0 H0.size k122 := Nx.tr (Nx.refl 0 _) hk122 hm0.size
            have nx102 : Nx 0 HL1.size k122 := Nx.tr (Nx.refl 0 _) hk122 hlm2.size
            replace hg := hg.upL hs122 (DFL.cons DF.z DFL.nil)
            replace hf := hf.upL hs122 (DFL.cons DF.z DFL.nil)
            replace hu := hu.upL hs122 (DFL.cons DF.z DFL.nil)
            replace or31 := or31.upL hs122 (DL.cons Dj.z DL.nil)
            replace or40 := or40.upL hs122 (DL.cons Dj.z DL.nil)
            replace or46 := or46.upL hs122 (DL.cons Dj.z DL.nil)
            replace oL := oL.upL hs122 (DL.cons Dj.z DL.nil)
            replace oo := oo.upL hs122 (DL.cons Dj.z DL.nil)
            replace rd121 := rd121.upL hs122 (DFL.cons DF.z DFL.nil)
            replace hm0 := (Mo.trL (ks := []) (hm0.mdn []) hs122 (MIL.cons MI.z MIL.nil)).nil
            replace hlm2 := hlm2.trL hs122 (MIL.cons MI.z MIL.nil)
            have hz19 := hs122.size
            have hle_oR := oR.le
            refine LR.v (Y.assign rfl rfl) (Wd.u rfl) rfl rfl ?_
            refine LR.nil ?_
            refine hK48 _ _ ?_
            refine CW.region ?_
            refine LR.v (Y.move rfl rfl) (Wd.u rfl) rfl rfl ?_
            refine LR.v (Y.move rfl rfl) (Wd.u rfl) rfl rfl ?_
            refine LR.v (Y.move rfl rfl) (Wd.u rfl) rfl rfl ?_
            refine LR.v (Y.cast (v2 := .int .i64 ((z + 1 : Nat) : Int)) (Y.addi rfl rfl rfl (by omega)) (ivv (by omega))) (Wd.u rfl) rfl rfl ?_
            refine LR.e (g := fun v => v) (Y.slice oL.rd ((z + 1)) (_) rfl Try.runUnderlying28 Try.sizeOf30 rfl (.inr ⟨_, _, _, rfl, rfl, by first | rfl | omega⟩) (.inl ⟨rfl, rfl⟩) (by omega) (by omega)) (Wd.u rfl) rfl rfl (fun v127 rd127 => ?_)
            have bf_rd127 := BF.of oL.le
            refine LR.z (Z.apnd oR rd127 rfl inf28 rfl rfl (by first | omega | (simp; omega)) (by first | omega | (simp; omega))) (Wd.u rfl) rfl rfl (fun v128 H128 r128 => ?_)
            obtain ⟨k128, oL2, hk128, hs128⟩ := r128
            replace hk128 : Nx k122 H122.size k128 := hk128
            replace hs128 := hs128.md
            have df103 := DF.app (df92) (bf_hg.mono hm0.size) hk128
            have df104 := DF.app (df93) (bf_hf.mono hm0.size) hk128
            have df105 := DF.app (df94) (bf_hu.mono hm0.size) hk128
            have dj106 : Dj k31 k128 := Dj.app (dj95) or31.le hk128
            have dj107 : Dj k40 k128 := Dj.app (dj96) or40.le hk128
            have dj108 : Dj k46 k128 := Dj.app (dj97) or46.le hk128
            have dj109 : Dj kR k128 := Dj.app (dj98) oL.le hk128
            have dj110 : Dj k117 k128 := Dj.app (dj99) oo.le hk128
            have df111 := DF.app ((DF.of dj98)) (bf_rd127.mono (by omega)) hk128
            have nx112 : Nx 0 H0.size k128 := Nx.tr (nx101) hk128 hm0.size
            have nx113 : Nx 0 HL1.size k128 := Nx.tr (nx102) hk128 hlm2.size
            replace hg := hg.upL hs128 (DFL.cons df92 DFL.nil)
            replace hf := hf.upL hs128 (DFL.cons df93 DFL.nil)
            replace hu := hu.upL hs128 (DFL.cons df94 DFL.nil)
            replace or31 := or31.upL hs128 (DL.cons dj95 DL.nil)
            replace or40 := or40.upL hs128 (DL.cons dj96 DL.nil)
            replace or46 := or46.upL hs128 (DL.cons dj97 DL.nil)
            replace oL := oL.upL hs128 (DL.cons dj98 DL.nil)
            replace oo := oo.upL hs128 (DL.cons dj99 DL.nil)
            replace rd127 := rd127.upL hs128 (DFL.cons (DF.of dj98) DFL.nil)
            replace hm0 := (Mo.trL (ks := []) (hm0.mdn []) hs128 (MIL.cons (MI.app MI.z (nx101) (Nat.le_refl _)) MIL.nil)).nil
            replace hlm2 := hlm2.trL hs128 (MIL.cons (MI.app MI.z (nx102) (Nat.le_refl _)) MIL.nil)
            have hz20 := hs128.size
            have hle_oL2 := oL2.le
            refine LR.v (Y.assign rfl rfl) (Wd.u rfl) rfl rfl ?_
            refine LR.nil ?_
            refine hK23 _ _ ?_
            refine QN.sub (hN20 (left.take z ++ left.drop (z + 1), v128, k128, out ++ [q], v117, k117) _ ?_ ?_) ⟨rfl, rfl, rfl, trivial⟩
            · exact ⟨by simpa using oL2, oo, by rw [hq]; exact hD.next hzl hzr hzn, (Nx.z (nx113)), nx91, dj110.symm, hlm2⟩
            · simp only [List.length_append, List.length_take, List.length_drop]; omega
      ·
        obtain rfl : left = [] := by
          cases left with
          | nil => rfl
          | cons x wt => exact absurd c71 (by simp)
        obtain ⟨s9, hs9⟩ : ∃ s : SV, vo = s.v := ⟨toSV vo, oo.sv.symm⟩
        refine CW.exit (hE21 (.exit 2) nofun _ _ (hE20 (.exit 2) nofun _ _ (hX19 _ _ ?_)))
        refine hK18 _ _ ?_
        refine CW.seq (fun K49 hK49 hE49 => ?_)
        refine CW.region ?_
        refine LR.v (Y.move rfl rfl) (Wd.u rfl) rfl rfl ?_
        refine LR.v (Y.assign rfl rfl) (Wd.u rfl) rfl rfl ?_
        refine LR.v (Y.assign rfl rfl) (Wd.u rfl) rfl rfl ?_
        refine LR.nil ?_
        refine hK49 _ _ ?_
        refine CW.ret (hret .ret (.inr rfl) _ _ _ (res2 rfl rfl rfl) ?_)
        exact ⟨s9, ko, out, 0, by rw [hs9]; rfl, by rw [← hs9]; exact oo, nx68, ⟨hT31, fun h => absurd rfl h, fun _ => ⟨_, hD.done, fun k => by rw [List.mem_filter, decide_eq_true_eq, hm40, hm46]⟩⟩, by simp only [List.length_nil] at hDl; omega, hm0⟩

end Go.Proofs.Ytepdhokpfecdnaa.GraZA
/-
  A commit's number is one more than the greatest of its parents'.
-/
namespace Go.Proofs.Ytepdhokpfecdnaa.GraQ
open Go.Proofs.Ytepdhokpfecdnaa.E Go.RowKit Go.Proofs.Ytepdhokpfecdnaa.GraA Go.Proofs.Ytepdhokpfecdnaa.GraB Go.Proofs.Ytepdhokpfecdnaa.GraC Go.Proofs.Ytepdhokpfecdnaa.GraD Go.Proofs.Ytepdhokpfecdnaa.GraE Go.Proofs.Ytepdhokpfecdnaa.GraF Go.Proofs.Ytepdhokpfecdnaa.GraG Go.Proofs.Ytepdhokpfecdnaa.GraH Go.Proofs.Ytepdhokpfecdnaa.GraI Go.Proofs.Ytepdhokpfecdnaa.GraJ Go.Proofs.Ytepdhokpfecdnaa.GraK Go.Proofs.Ytepdhokpfecdnaa.GraL Go.Proofs.Ytepdhokpfecdnaa.GraM Go.Proofs.Ytepdhokpfecdnaa.GraN Go.Proofs.Ytepdhokpfecdnaa.GraO Go.Proofs.Ytepdhokpfecdnaa.GraP
set_option maxRecDepth 20000
set_option linter.unusedVariables false
set_option linter.unusedSimpArgs false
set_option linter.unusedSectionVars false
set_option maxRecDepth 100000 in
theorem inf38 : Inf Try.prog 38 3 1 8 := ⟨Try.underlying38, _, _, rfl, rfl, rfl, rfl, rfl⟩

end Go.Proofs.Ytepdhokpfecdnaa.GraQ
/-
  A commit is asked for its parents once.
-/
namespace Go.Proofs.Ytepdhokpfecdnaa.GraR
open Go.Proofs.Ytepdhokpfecdnaa.E Go.RowKit Go.Proofs.Ytepdhokpfecdnaa.GraA Go.Proofs.Ytepdhokpfecdnaa.GraB Go.Proofs.Ytepdhokpfecdnaa.GraC Go.Proofs.Ytepdhokpfecdnaa.GraD Go.Proofs.Ytepdhokpfecdnaa.GraE Go.Proofs.Ytepdhokpfecdnaa.GraF Go.Proofs.Ytepdhokpfecdnaa.GraG Go.Proofs.Ytepdhokpfecdnaa.GraH Go.Proofs.Ytepdhokpfecdnaa.GraI Go.Proofs.Ytepdhokpfecdnaa.GraJ Go.Proofs.Ytepdhokpfecdnaa.GraK Go.Proofs.Ytepdhokpfecdnaa.GraL Go.Proofs.Ytepdhokpfecdnaa.GraM Go.Proofs.Ytepdhokpfecdnaa.GraN Go.Proofs.Ytepdhokpfecdnaa.GraO Go.Proofs.Ytepdhokpfecdnaa.GraP Go.Proofs.Ytepdhokpfecdnaa.GraQ
set_option maxRecDepth 20000
set_option linter.unusedVariables false
set_option linter.unusedSimpArgs false
set_option linter.unusedSectionVars false
set_option maxRecDepth 100000 in
theorem inf22 : Inf Try.prog 22 38 1 24 := ⟨Try.underlying22, _, _, rfl, rfl, rfl, rfl, rfl⟩
set_option maxRecDepth 100000 in
theorem inf38 : Inf Try.prog 38 3 1 8 := ⟨Try.underlying38, _, _, rfl, rfl, rfl, rfl, rfl⟩

end Go.Proofs.Ytepdhokpfecdnaa.GraR
/-
  From all commits on, up to none, and up to one.
-/
namespace Go.Proofs.Ytepdhokpfecdnaa.GraS
open Go.Proofs.Ytepdhokpfecdnaa.E Go.RowKit Go.Proofs.Ytepdhokpfecdnaa.GraA Go.Proofs.Ytepdhokpfecdnaa.GraB Go.Proofs.Ytepdhokpfecdnaa.GraC Go.Proofs.Ytepdhokpfecdnaa.GraD Go.Proofs.Ytepdhokpfecdnaa.GraE Go.Proofs.Ytepdhokpfecdnaa.GraF Go.Proofs.Ytepdhokpfecdnaa.GraG Go.Proofs.Ytepdhokpfecdnaa.GraH Go.Proofs.Ytepdhokpfecdnaa.GraI Go.Proofs.Ytepdhokpfecdnaa.GraJ Go.Proofs.Ytepdhokpfecdnaa.GraK Go.Proofs.Ytepdhokpfecdnaa.GraL Go.Proofs.Ytepdhokpfecdnaa.GraM Go.Proofs.Ytepdhokpfecdnaa.GraN Go.Proofs.Ytepdhokpfecdnaa.GraO Go.Proofs.Ytepdhokpfecdnaa.GraP Go.Proofs.Ytepdhokpfecdnaa.GraQ Go.Proofs.Ytepdhokpfecdnaa.GraR
set_option maxRecDepth 20000
set_option linter.unusedVariables false
set_option linter.unusedSimpArgs false
set_option linter.unusedSectionVars false
set_option maxRecDepth 100000 in
theorem inf28 : Inf Try.prog 28 30 32 32 := ⟨Try.underlying28, _, _, rfl, rfl, rfl, rfl, rfl⟩

theorem ord_mem {pa : Ide → Option (List Ide)} {fr un out : List Ide} (h : Ord pa fr un out) : out.Nodup ∧ ∀ k, k ∈ out ↔ (∃ i ∈ fr, UpO pa i k) ∧ ¬ ∃ i ∈ un, UpO pa i k := by
  obtain ⟨K, S, _, hT, hS⟩ := h
  exact ⟨hT.dnd, fun k => by rw [← hS]; exact ⟨hT.dsub k, hT.all k⟩⟩
section
variable {g : List (List Nat)}
abbrev allI (n : Nat) : List Ide := (List.range n).map idn
theorem GOk.nodup (hg : GOk g) {n : Nat} (hn : n ≤ g.length) : (allI n).Nodup := by
  rw [List.nodup_iff_pairwise_ne, List.pairwise_map]
  refine (List.nodup_iff_pairwise_ne.1 List.nodup_range).imp_of_mem ?_
  intro a b ha hb hne e
  rw [List.mem_range] at ha hb
  exact hne (hg.inj (by omega) (by omega) e)
theorem GOk.ups (hg : GOk g) (k : Ide) : (∃ i ∈ allI g.length, UpO (paL g) i k) ↔ k ∈ allI g.length := by
  constructor
  · rintro ⟨i, hi, hu⟩
    obtain ⟨a, ha, rfl⟩ := List.mem_map.1 hi
    rw [List.mem_range] at ha
    obtain ⟨b, hb, rfl⟩ := hg.up ha hu
    exact List.mem_map.2 ⟨b, by simp; omega, rfl⟩
  · intro h; exact ⟨k, h, .refl⟩
theorem GOk.split (hg : GOk g) {i : Ide} {q r : List Ide} (hi : i ∈ allI g.length) (h1 : Ord (paL g) (allI g.length) [i] q) (h2 : Ord (paL g) [i] [] r) : q.length + r.length = g.length ∧ ∀ k, k ∈ q → k ∈ r → False := by
  obtain ⟨hd1, hm1⟩ := ord_mem h1
  obtain ⟨hd2, hm2⟩ := ord_mem h2
  have h3 : ∀ k, k ∈ q → k ∈ r → False := fun k hk hk2 => by
    have a1 := ((hm1 k).1 hk).2
    exact a1 ((hm2 k).1 hk2).1
  refine ⟨?_, h3⟩
  have hd : (q ++ r).Nodup := List.nodup_append.2 ⟨hd1, hd2, fun a ha b hb e => h3 a ha (e ▸ hb)⟩
  have e1 := nodup_le (b := allI g.length) hd (fun k hk => by
    rcases List.mem_append.1 hk with hk | hk
    · exact (GOk.ups hg k).1 ((hm1 k).1 hk).1
    · obtain ⟨⟨j, hj, hu⟩, _⟩ := (hm2 k).1 hk
      rw [List.mem_singleton.1 hj] at hu
      exact (GOk.ups hg k).1 ⟨i, hi, hu⟩)
  have e2 := nodup_le (b := q ++ r) (GOk.nodup hg (Nat.le_refl _)) (fun k hk => by
    by_cases hu : UpO (paL g) i k
    · exact List.mem_append_right _ ((hm2 k).2 ⟨⟨i, by simp, hu⟩, by simp⟩)
    · exact List.mem_append_left _ ((hm1 k).2 ⟨(GOk.ups hg k).2 hk, fun ⟨j, hj, hv⟩ => hu (by rw [List.mem_singleton.1 hj] at hv; exact hv)⟩))
  simp at e1 e2; omega
end
end Go.Proofs.Ytepdhokpfecdnaa.GraS
/-
  The document's graph: Gen.
-/
namespace Go.Proofs.Ytepdhokpfecdnaa.GraZB
open Go.Proofs.Ytepdhokpfecdnaa.E Go.RowKit Go.Proofs.Ytepdhokpfecdnaa.GraA Go.Proofs.Ytepdhokpfecdnaa.GraB Go.Proofs.Ytepdhokpfecdnaa.GraC Go.Proofs.Ytepdhokpfecdnaa.GraD Go.Proofs.Ytepdhokpfecdnaa.GraE Go.Proofs.Ytepdhokpfecdnaa.GraF Go.Proofs.Ytepdhokpfecdnaa.GraG Go.Proofs.Ytepdhokpfecdnaa.GraH Go.Proofs.Ytepdhokpfecdnaa.GraI Go.Proofs.Ytepdhokpfecdnaa.GraJ Go.Proofs.Ytepdhokpfecdnaa.GraK Go.Proofs.Ytepdhokpfecdnaa.GraL Go.Proofs.Ytepdhokpfecdnaa.GraM Go.Proofs.Ytepdhokpfecdnaa.GraN Go.Proofs.Ytepdhokpfecdnaa.GraO Go.Proofs.Ytepdhokpfecdnaa.GraP Go.Proofs.Ytepdhokpfecdnaa.GraX Go.Proofs.Ytepdhokpfecdnaa.GraY Go.Proofs.Ytepdhokpfecdnaa.GraZ Go.Proofs.Ytepdhokpfecdnaa.GraZA
set_option maxRecDepth 20000
set_option linter.unusedVariables false
set_option linter.unusedSimpArgs false
set_option linter.unusedSectionVars false
set_option maxRecDepth 100000 in
theorem inf28 : Inf Try.prog 28 30 32 32 := ⟨Try.underlying28, _, _, rfl, rfl, rfl, rfl, rfl⟩
set_option maxRecDepth 100000 in
theorem inf38 : Inf Try.prog 38 3 1 8 := ⟨Try.underlying38, _, _, rfl, rfl, rfl, rfl, rfl⟩

/-- the numbers of the first i, and c -/
def gnR (g : Ide → Nat) (L : List Ide) (i c : Nat) : List Nat := (List.range L.length).map (fun m => if m < i then g (L.getD m default) else if m = i then c else 0)
/-- of some, those among the first k -/
def gpr (g : Ide → Nat) (L ps : List Ide) (k : Nat) : Nat := gmax g ((L.take k).filter (fun x => decide (x ∈ ps)))
section
variable {g : Ide → Nat} {L ps : List Ide} {i k c : Nat}
theorem gnR_len : (gnR g L i c).length = L.length := by simp [gnR]
theorem gnR_zero : gnR g L 0 0 = List.replicate L.length 0 := by
  refine List.ext_getElem (by simp [gnR]) (fun i h1 h2 => ?_)
  simp only [gnR, List.getElem_map, List.getElem_range, List.getElem_replicate]
  by_cases h : i = 0
  · subst h; rfl
  · rw [if_neg (by omega), if_neg h]
theorem gnR_next (h : i < L.length) (hc : c = g L[i]) : gnR g L (i + 1) 0 = gnR g L i c := by
  refine List.ext_getElem (by simp [gnR]) (fun m h1 h2 => ?_)
  simp only [gnR, List.getElem_map, List.getElem_range]
  by_cases h3 : m < i
  · rw [if_pos (by omega), if_pos h3]
  · rw [if_neg h3]
    by_cases h4 : m = i
    · subst h4
      rw [if_pos (by omega), if_pos rfl, hc]
      simp [List.getD_eq_getElem?_getD, List.getElem?_eq_getElem h]
    · rw [if_neg h4, if_neg (by omega)]; split <;> rfl
theorem gnR_set {c2 : Nat} : (gnR g L i c).set i c2 = gnR g L i c2 := by
  refine List.ext_getElem (by simp [gnR]) (fun m h1 h2 => ?_)
  rw [List.getElem_set]
  simp only [gnR, List.getElem_map, List.getElem_range]
  by_cases h : i = m
  · subst h; rw [if_pos rfl, if_neg (by omega), if_pos rfl]
  · rw [if_neg h]
    by_cases h2 : m < i
    · rw [if_pos h2, if_pos h2]
    · rw [if_neg h2, if_neg h2, if_neg (fun e => h e.symm), if_neg (fun e => h e.symm)]
theorem gnR_at (h : i < (gnR g L i c).length) : (gnR g L i c)[i] = c := by
  simp [gnR]
theorem gnR_old (h : k < (gnR g L i c).length) (h2 : k < i) (h3 : k < L.length) : (gnR g L i c)[k] = g L[k] := by
  simp only [gnR, List.getElem_map, List.getElem_range]
  rw [if_pos h2]
  simp [List.getD_eq_getElem?_getD, List.getElem?_eq_getElem h3]
theorem gpr_hit (h : k < L.length) (h2 : L[k] ∈ ps) : gpr g L ps (k + 1) = max (gpr g L ps k) (g L[k] + 1) := by
  unfold gpr
  rw [filt_take h, if_pos (decide_eq_true h2), gmax_snoc]
theorem gpr_miss (h : k < L.length) (h2 : L[k] ∉ ps) : gpr g L ps (k + 1) = gpr g L ps k := by
  unfold gpr
  rw [filt_take h, if_neg (by simpa using h2), List.append_nil]
theorem gpr_all (h : ∀ p ∈ ps, p ∈ L.take k) : gpr g L ps k = gmax g ps := by
  refine Nat.le_antisymm (gmax_le fun p hp => ?_) (gmax_le fun p hp => ?_)
  · exact gmax_gt (of_decide_eq_true (List.mem_filter.1 hp).2)
  · exact gmax_gt (List.mem_filter.2 ⟨h p hp, decide_eq_true hp⟩)
theorem gpr_zero : gpr g L ps 0 = 0 := rfl
theorem gpr_le {b : Nat} (h : ∀ x, g x ≤ b) : gpr g L ps k ≤ b + 1 := gmax_le fun p _ => by have := h p; omega
end
/-- the last of them is the one that they all lead to -/
theorem ror_last {pa : Ide → Option (List Ide)} {i : Ide} {out : List Ide} (h : ROr pa [i] [] out 0) : 0 < out.length ∧ out[out.length - 1]? = some i ∧ ∀ m (hm : m < out.length), ∃ ps, pa out[m] = some ps ∧ ∀ p ∈ ps, p ∈ out.take m := by
  obtain ⟨S, hT, hS⟩ := h.2.2 rfl
  have hpar : ∀ m (hm : m < out.length), ∃ ps, pa out[m] = some ps ∧ ∀ p ∈ ps, p ∈ out.take m := by
    intro m hm
    obtain ⟨⟨z, hz, hu⟩, _⟩ := (hS _).1 (hT.dsub _ (List.getElem_mem hm))
    rw [List.mem_singleton.1 hz] at hu
    have := h.1.get out[m] ⟨i, by simp, hu⟩
    obtain ⟨ps, hps⟩ := Option.isSome_iff_exists.1 this
    refine ⟨ps, hps, fun p hp => hT.par m hm p (by unfold pp; rw [hps]; exact hp) ((hS p).2 ⟨⟨i, by simp, hu.step hps hp⟩, by simp⟩)⟩
  have hi : i ∈ out := hT.all i ((hS i).2 ⟨⟨i, by simp, .refl⟩, by simp⟩)
  obtain ⟨j, hj, hje⟩ := List.getElem_of_mem hi
  have hup : ∀ x, UpO pa i x → x ∈ out.take (j + 1) := by
    intro x hx
    induction hx with
    | refl =>
      rw [List.take_succ_eq_append_getElem hj, hje]; simp
    | @step y p ps hu hq hp ih =>
      obtain ⟨m, hml, hme⟩ := List.getElem_of_mem ih
      rw [List.length_take] at hml
      rw [List.getElem_take] at hme
      obtain ⟨qs, h1, h2⟩ := hpar m (by omega)
      rw [hme, hq] at h1
      obtain rfl := Option.some.inj h1
      exact List.take_subset_take_left _ (by omega) (h2 p hp)
  have hl : out.length - 1 < out.length := by omega
  have hlast := hup out[out.length - 1] (by
    obtain ⟨⟨i2, hi2, hu⟩, _⟩ := (hS _).1 (hT.dsub _ (List.getElem_mem hl))
    rw [List.mem_singleton.1 hi2] at hu; exact hu)
  obtain ⟨m, hml, hme⟩ := List.getElem_of_mem hlast
  rw [List.length_take] at hml
  rw [List.getElem_take] at hme
  have := (List.getElem_inj hT.dnd).1 hme
  refine ⟨by omega, ?_, hpar⟩
  rw [List.getElem?_eq_getElem hl]
  have hjl : j = out.length - 1 := by omega
  subst hjl
  rw [hje]

theorem rgen_ct (gb : Nat) (nl : SV) (nd : List Nd) (F : Nat → Prop) (a : Ide) (rk g : Ide → Nat) (w0 : World) (H0 : Heap)
    (hg : GrR F H0 gb nl nd) (bf_hg : BF F H0.size) (hnd : NdOk nd) (hac : ∀ k, ∀ p ∈ (pp (paR nd)) k, rk p < rk k) (hgm : ∀ k ps, paR nd k = some ps → g k = gmax g ps) (hgb : ∀ k, g k ≤ 1000000) :
    Ct Try.prog w0 23 #[.pointer (some ⟨gb, 0, none⟩), vA a] H0 (fun r H2 => ∃ rr : Nat, ∃ e : Nat, r = .tuple #[.int .i64 (rr : Int), .int .i64 (e : Int)] ∧ (TldR (paR nd) [a] e) ∧ ((e = 0 → rr = g a) ∧ (e ≠ 0 → rr = 0)) ∧ Nw H0 H2) := by
  refine Ct.enter (args := [.pointer (some ⟨gb, 0, none⟩), vA a]) Try.func23 rfl rfl rfl ?_
  intro Q0 hret
  have hm0 : Nw H0 H0 := Mo.refl _ _
  refine CW.seq (fun K1 hK1 hE1 => ?_)
  refine CW.region ?_
  refine LR.z (Z.boxv rfl rfl) (Wd.u rfl) rfl rfl (fun v3 H3 r3 => ?_)
  obtain ⟨rfl, va, hs3, ob3, hH3⟩ := r3
  have hzs3 : H3.size = H0.size + 1 := by rw [hH3]; simp
  have df1 := (DF.new (bf_hg.mono hm0.size) : DF _ (H0.size + 1))
  have nx2 : Nx 0 H0.size (H0.size + 1) := Nx.new hm0.size
  replace hg := hg.nw hs3
  replace hm0 := hm0.tr hs3
  have hz1 := hs3.size
  replace va : Var 30 H3 H0.size (fA a) := va
  refine LR.v (Y.assign rfl rfl) (Wd.u rfl) rfl rfl ?_
  refine LR.v (Y.assign rfl rfl) (Wd.u rfl) rfl rfl ?_
  refine LR.nil ?_
  refine hK1 _ _ ?_
  refine CW.seq (fun K2 hK2 hE2 => ?_)
  refine CW.region ?_
  refine LR.v (Y.move rfl rfl) (Wd.u rfl) rfl rfl ?_
  refine LR.v (Y.loadN va.pt rfl Try.isAgg30 Try.sizeOf30 (fA_len _) rfl) (Wd.u rfl) rfl rfl ?_
  refine LR.z (Z.litw _ ([a]) rfl inf28 rfl rfl rfl (by decide) (by decide) fA_len fA_one (rfl)) (Wd.u rfl) rfl rfl (fun v17 H17 r17 => ?_)
  obtain ⟨ow17, hs17, ob17, hH17⟩ := r17
  have hzs17 : H17.size = H3.size + 1 := by rw [hH17]; simp
  have df3 := (DF.new (bf_hg.mono hm0.size) : DF _ (H3.size + 1))
  have dj4 : Dj (H0.size + 1) (H3.size + 1) := Dj.new va.lt
  have nx5 : Nx 0 H0.size (H3.size + 1) := Nx.new hm0.size
  replace hg := hg.nw hs17
  replace va := va.nw hs17
  replace hm0 := hm0.tr hs17
  have hz2 := hs17.size
  -- call (*selvage/selvageref11.Graph).Order
  refine LR.call rfl Try.call25 rfl (Wd.u rfl) rfl rfl (rord_ct gb nl nd F _ (.slice none 0 0) [a] [] rk w0 _ hg (bf_hg.mono (by omega)) hnd ow17.rd.any (Rd.nil _ _ _ _) (by simp) (by simp) hac) (fun v18 H18 r18 => ?_)
  obtain ⟨s18, k18, L, e18, rfl, or18, hk18, hR18, hl18, hs18⟩ := r18
  have df6 := DF.app (DF.z) (bf_hg.mono hm0.size) hk18
  have dj7 : Dj (H0.size + 1) k18 := Dj.app (Dj.z) va.lt hk18
  have dj8 : Dj (H3.size + 1) k18 := Dj.app (Dj.z) ow17.le hk18
  have nx9 : Nx 0 H0.size k18 := Nx.tr (Nx.refl 0 _) hk18 hm0.size
  replace hg := hg.nw hs18
  replace va := va.nw hs18
  replace ow17 := ow17.nw hs18
  replace hm0 := hm0.tr hs18
  have hz3 := hs18.size
  have hle_or18 := or18.le
  refine LR.v (Y.move rfl rfl) (Wd.u rfl) rfl rfl ?_
  refine LR.v (Y.cast (v2 := s18.v) (Y.extract rfl rfl rfl) (rfl)) (Wd.u rfl) rfl rfl ?_
  refine LR.v (Y.cast (v2 := .int .i64 (e18 : Int)) (Y.extract rfl rfl rfl) (rfl)) (Wd.u rfl) rfl rfl ?_
  refine LR.v (Y.assign rfl rfl) (Wd.u rfl) rfl rfl ?_
  refine LR.v (Y.assign rfl rfl) (Wd.u rfl) rfl rfl ?_
  refine LR.nil ?_
  refine hK2 _ _ ?_
  refine CW.seq (fun K3 hK3 hE3 => ?_)
  refine CW.seq (fun K4 hK4 hE4 => ?_)
  refine CW.region ?_
  refine LR.v (Y.move rfl rfl) (Wd.u rfl) rfl rfl ?_
  refine LR.v (Y.neq rfl rfl rfl) (Wd.u rfl) rfl rfl ?_
  refine LR.nil ?_
  refine hK4 _ _ ?_
  refine CW.condp rfl (fun c22 => ?_) (fun c22 => ?_)
  ·
    refine CW.seq (fun K5 hK5 hE5 => ?_)
    refine CW.region ?_
    refine LR.v (Y.move rfl rfl) (Wd.u rfl) rfl rfl ?_
    refine LR.v (Y.assign rfl rfl) (Wd.u rfl) rfl rfl ?_
    refine LR.v (Y.assign rfl rfl) (Wd.u rfl) rfl rfl ?_
    refine LR.nil ?_
    refine hK5 _ _ ?_
    refine CW.ret (hE3 .ret nofun _ _ (hret .ret (.inr rfl) _ _ _ (res2 rfl rfl rfl) ?_))
    exact ⟨0, e18, rfl, hR18.1, ⟨fun h => absurd h (by omega), fun _ => rfl⟩, hm0⟩
  ·
    obtain rfl : e18 = 0 := by omega
    obtain ⟨hlp, hlast, hpar⟩ := ror_last hR18
    refine CW.skip ?_
    refine hK3 _ _ ?_
    refine CW.seq (fun K6 hK6 hE6 => ?_)
    refine CW.region ?_
    refine LR.v (Y.move rfl rfl) (Wd.u rfl) rfl rfl ?_
    refine LR.v (Y.len or18.rd rfl Try.runUnderlying28 rfl) (Wd.u rfl) rfl rfl ?_
    refine LR.z (Z.makew (L.length) (0) rfl inf38 Try.zeroValue3 rfl fN_len fN_one rfl rfl (by first | rfl | omega) (by omega) (by omega)) (Wd.u rfl) rfl rfl (fun v26 H26 r26 => ?_)
    obtain ⟨og, hs26, ob26, hH26⟩ := r26
    have hzs26 : H26.size = H18.size + 1 := by rw [hH26]; simp
    have df10 := (DF.new (bf_hg.mono hm0.size) : DF _ (H18.size + 1))
    have dj11 : Dj k18 (H18.size + 1) := Dj.new or18.le
    have nx12 : Nx 0 H0.size (H18.size + 1) := Nx.new hm0.size
    replace hg := hg.nw hs26
    replace or18 := or18.nw hs26
    replace hm0 := hm0.tr hs26
    have hz4 := hs26.size
    refine LR.v (Y.assign rfl rfl) (Wd.u rfl) rfl rfl ?_
    refine LR.nil ?_
    refine hK6 _ _ ?_
    refine CW.seq (fun K7 hK7 hE7 => ?_)
    refine CW.region ?_
    refine LR.v (Y.assign rfl rfl) (Wd.u rfl) rfl rfl ?_
    refine LR.nil ?_
    refine hK7 _ _ ?_
    refine CW.seq (fun K8 hK8 hE8 => ?_)
    refine CW.seq (fun K9 hK9 hE9 => ?_)
    refine CW.region ?_
    refine LR.v (Y.assign rfl rfl) (Wd.u rfl) rfl rfl ?_
    refine LR.nil ?_
    refine hK9 _ _ ?_
    refine CW.block (fun K10 hK10 hX10 hE10 => ?_)
    refine CW.loop (fun (s_ : (Nat) × (Nat)) => match s_ with | (i, nn) => [(0, .pointer (some ⟨gb, 0, none⟩)), (6, s18.v), (8, v26), (9, .int .i64 (nn : Int)), (10, .int .i64 (i : Int))])
      (fun (s_ : (Nat) × (Nat)) (H : Heap) => match s_ with | (i, nn) => (Ow (H18.size + 1) 3 H fN 1 v26 (gnR g L i 0)) ∧ (i ≤ L.length) ∧ (0 < i → ∃ h : i - 1 < L.length, nn = g L[i - 1]) ∧ (Nx (H18.size + 1) H26.size ((H18.size + 1))) ∧ Mo (Ms [(H18.size + 1)]) H26 H)
      (fun (s_ : (Nat) × (Nat)) => match s_ with | (i, nn) => L.length - i) (0, 0) ⟨rfl, rfl, rfl, rfl, rfl, trivial⟩ ?_ ?_
    ·
      exact ⟨by rw [gnR_zero]; exact og, (by omega), (fun h => absurd h (by omega)), Nx.refl _ _, Mo.refl _ _⟩
    rintro ⟨i, nn⟩ HL1 hI1 K11 hN11 hE11
    obtain ⟨og, hi, hnn, nxl_og, hlm1⟩ := hI1
    have df13 := DF.app (df10) (bf_hg.mono hm0.size) nxl_og
    have dj14 : Dj k18 ((H18.size + 1)) := Dj.app (dj11) or18.le nxl_og
    have nx15 : Nx 0 H0.size ((H18.size + 1)) := Nx.tr (nx12) nxl_og hm0.size
    replace hg := hg.upL hlm1 (DFL.cons df10 DFL.nil)
    replace or18 := or18.upL hlm1 (DL.cons dj11 DL.nil)
    replace hm0 := (Mo.trL (ks := []) (hm0.mdn []) hlm1 (MIL.cons (MI.app MI.z (nx12) (Nat.le_refl _)) MIL.nil)).nil
    have hz5 := hlm1.size
    have hle_og := og.le
    have nx16 := nxl_og
    refine CW.seq (fun K12 hK12 hE12 => ?_)
    refine CW.seq (fun K13 hK13 hE13 => ?_)
    refine CW.region ?_
    refine LR.v (Y.move rfl rfl) (Wd.u rfl) rfl rfl ?_
    refine LR.v (Y.move rfl rfl) (Wd.u rfl) rfl rfl ?_
    refine LR.v (Y.len or18.rd rfl Try.runUnderlying28 rfl) (Wd.u rfl) rfl rfl ?_
    refine LR.v (Y.lss rfl rfl rfl) (Wd.u rfl) rfl rfl ?_
    refine LR.nil ?_
    refine hK13 _ _ ?_
    refine CW.condp rfl (fun c30 => ?_) (fun c30 => ?_)
    ·
      have hil : i < L.length := by omega
      obtain ⟨x, hx⟩ : ∃ x, x = L[i] := ⟨_, rfl⟩
      refine CW.skip ?_
      refine hK12 _ _ ?_
      refine CW.seq (fun K14 hK14 hE14 => ?_)
      refine CW.block (fun K15 hK15 hX15 hE15 => ?_)
      refine CW.seq (fun K16 hK16 hE16 => ?_)
      refine CW.region ?_
      refine LR.v (Y.move rfl rfl) (Wd.u rfl) rfl rfl ?_
      refine LR.v (Y.move rfl rfl) (Wd.u rfl) rfl rfl ?_
      refine LR.v (Y.move rfl rfl) (Wd.u rfl) rfl rfl ?_
      refine LR.v (Y.owAddr or18 (i) rfl Try.runUnderlying28 Try.sizeOf30 rfl rfl (by first | rfl | omega) (by omega)) (Wd.u rfl) rfl rfl ?_
      refine LR.v (Y.cast (v2 := vA x) (Y.loadN (or18.pt (j := i) (by omega)) rfl Try.isAgg30 Try.sizeOf30 (fA_len _) rfl) (by rw [hx]; rfl)) (Wd.u rfl) rfl rfl ?_
      -- call (*selvage/selvageref11.Graph).parents
      refine LR.call rfl Try.call36 rfl (Wd.u rfl) rfl rfl (rpar_ct gb nl nd x F w0 _ hg (bf_hg.mono (by omega))) (fun v39 H39 r39 => ?_)
      obtain ⟨sp, ps, b39, rfl, hp39, hr39, hs39⟩ := r39
      replace hg := hg.nw hs39
      replace or18 := or18.nw hs39
      replace og := og.nw hs39
      replace hm0 := hm0.tr hs39
      replace hlm1 := hlm1.trN hs39
      have hz6 := hs39.size
      have bf_hr39 := bf_hg
      have hpp : pp (paR nd) x = ps := by
        unfold pp
        rcases hp39 with h | h
        · rw [h.2]; rfl
        · rw [h.2.1, h.2.2]; rfl
      have hpsl := hr39.len
      refine LR.v (Y.move rfl rfl) (Wd.u rfl) rfl rfl ?_
      refine LR.v (Y.cast (v2 := sp.v) (Y.extract rfl rfl rfl) (rfl)) (Wd.u rfl) rfl rfl ?_
      refine LR.v (Y.cast (v2 := .bool b39) (Y.extract rfl rfl rfl) (rfl)) (Wd.u rfl) rfl rfl ?_
      refine LR.v (Y.assign rfl rfl) (Wd.u rfl) rfl rfl ?_
      refine LR.v (Y.assign rfl rfl) (Wd.u rfl) rfl rfl ?_
      refine LR.nil ?_
      refine hK16 _ _ ?_
      refine CW.seq (fun K17 hK17 hE17 => ?_)
      refine CW.seq (fun K18 hK18 hE18 => ?_)
      refine CW.region ?_
      refine LR.v (Y.assign rfl rfl) (Wd.u rfl) rfl rfl ?_
      refine LR.nil ?_
      refine hK18 _ _ ?_
      refine CW.block (fun K19 hK19 hX19 hE19 => ?_)
      refine CW.loop (fun (k : (Nat)) => [(0, .pointer (some ⟨gb, 0, none⟩)), (6, s18.v), (8, v26), (10, .int .i64 (i : Int)), (11, sp.v), (13, .int .i64 (k : Int))])
        (fun (k : (Nat)) (H : Heap) => (Ow (H18.size + 1) 3 H fN 1 v26 (gnR g L i (gpr g L ps k))) ∧ (k ≤ i) ∧ (Nx ((H18.size + 1)) H39.size ((H18.size + 1))) ∧ Mo (Ms [((H18.size + 1))]) H39 H)
        (fun (k : (Nat)) => i - k) 0 ⟨rfl, rfl, rfl, rfl, rfl, rfl, trivial⟩ ?_ ?_
      ·
        exact ⟨by rw [gpr_zero]; exact og, (by omega), Nx.refl _ _, Mo.refl _ _⟩
      intro k HL2 hI2 K20 hN20 hE20
      obtain ⟨og, hk, nxl_og, hlm2⟩ := hI2
      have df17 := DF.app (df13) (bf_hg.mono hm0.size) nxl_og
      have dj18 : Dj k18 ((H18.size + 1)) := Dj.app (dj14) or18.le nxl_og
      have df19 := DF.app (df13) (bf_hr39.mono hm0.size) nxl_og
      have nx20 : Nx 0 H0.size ((H18.size + 1)) := Nx.tr (nx15) nxl_og hm0.size
      have nx21 : Nx (H18.size + 1) H26.size ((H18.size + 1)) := Nx.tr (nx16) nxl_og hlm1.size
      replace hg := hg.upL hlm2 (DFL.cons df13 DFL.nil)
      replace or18 := or18.upL hlm2 (DL.cons dj14 DL.nil)
      replace hr39 := hr39.upL hlm2 (DFL.cons df13 DFL.nil)
      replace hm0 := (Mo.trL (ks := []) (hm0.mdn []) hlm2 (MIL.cons (MI.app MI.z (nx15) (Nat.le_refl _)) MIL.nil)).nil
      replace hlm1 := hlm1.trL hlm2 (MIL.cons (MI.app (MI.root (by simp)) (nx16) (Nat.le_refl _)) MIL.nil)
      have hz7 := hlm2.size
      have hle_og := og.le
      have nx22 := nxl_og
      refine CW.seq (fun K21 hK21 hE21 => ?_)
      refine CW.seq (fun K22 hK22 hE22 => ?_)
      refine CW.region ?_
      refine LR.v (Y.move rfl rfl) (Wd.u rfl) rfl rfl ?_
      refine LR.v (Y.move rfl rfl) (Wd.u rfl) rfl rfl ?_
      refine LR.v (Y.lss rfl rfl rfl) (Wd.u rfl) rfl rfl ?_
      refine LR.nil ?_
      refine hK22 _ _ ?_
      refine CW.condp rfl (fun c44 => ?_) (fun c44 => ?_)
      ·
        have hkl : k < L.length := by omega
        have hgn := gnR_len (g := g) (L := L) (i := i) (c := gpr g L ps k)
        obtain ⟨y, hy⟩ : ∃ y, y = L[k] := ⟨_, rfl⟩
        have hgy := hgb y
        have hgp := gpr_le (L := L) (ps := ps) (k := k) hgb
        refine CW.skip ?_
        refine hK21 _ _ ?_
        refine CW.seq (fun K23 hK23 hE23 => ?_)
        refine CW.block (fun K24 hK24 hX24 hE24 => ?_)
        refine CW.seq (fun K25 hK25 hE25 => ?_)
        refine CW.region ?_
        refine LR.v (Y.move rfl rfl) (Wd.u rfl) rfl rfl ?_
        refine LR.v (Y.move rfl rfl) (Wd.u rfl) rfl rfl ?_
        refine LR.v (Y.move rfl rfl) (Wd.u rfl) rfl rfl ?_
        refine LR.v (Y.owAddr or18 (k) rfl Try.runUnderlying28 Try.sizeOf30 rfl rfl (by first | rfl | omega) (by omega)) (Wd.u rfl) rfl rfl ?_
        refine LR.v (Y.cast (v2 := vA y) (Y.loadN (or18.pt (j := k) (by omega)) rfl Try.isAgg30 Try.sizeOf30 (fA_len _) rfl) (by rw [hy]; rfl)) (Wd.u rfl) rfl rfl ?_
        -- call selvage/selvageref1.Has
        refine LR.call rfl Try.call35 rfl (Wd.u rfl) rfl rfl (rhas_ct _ ps y w0 _ hr39.any) (fun v52 H52 r52 => ?_)
        obtain ⟨rfl, hs52⟩ := r52
        replace hg := hg.nw hs52
        replace or18 := or18.nw hs52
        replace og := og.nw hs52
        replace hr39 := hr39.nw hs52
        replace hm0 := hm0.tr hs52
        replace hlm1 := hlm1.trN hs52
        replace hlm2 := hlm2.trN hs52
        have hz8 := hs52.size
        refine LR.nil ?_
        refine hK25 _ _ ?_
        refine CW.condp rfl (fun c52 => ?_) (fun c52 => ?_)
        ·
          refine CW.region_tail 13 rfl (by kernel_rfl) (fun T14 hT14 => ?_)
          refine LR.v (Y.move rfl rfl) (Wd.u rfl) rfl rfl ?_
          refine LR.v (Y.move rfl rfl) (Wd.u rfl) rfl rfl ?_
          refine LR.v (Y.move rfl rfl) (Wd.u rfl) rfl rfl ?_
          refine LR.v (Y.move rfl rfl) (Wd.u rfl) rfl rfl ?_
          refine LR.v (Y.owAddr og (i) rfl Try.runUnderlying38 Try.sizeOf3 rfl rfl (by first | rfl | omega) (by omega)) (Wd.u rfl) rfl rfl ?_
          refine LR.v (Y.cast (v2 := .int .i64 ((gpr g L ps k : Nat) : Int)) (Y.load1 (og.pt (j := i) (by omega)) rfl Try.isAgg3 rfl) (by rw [gnR_at])) (Wd.u rfl) rfl rfl ?_
          refine LR.v (Y.move rfl rfl) (Wd.u rfl) rfl rfl ?_
          refine LR.v (Y.move rfl rfl) (Wd.u rfl) rfl rfl ?_
          refine LR.v (Y.owAddr og (k) rfl Try.runUnderlying38 Try.sizeOf3 rfl rfl (by first | rfl | omega) (by omega)) (Wd.u rfl) rfl rfl ?_
          refine LR.v (Y.cast (v2 := .int .i64 (g y : Int)) (Y.load1 (og.pt (j := k) (by omega)) rfl Try.isAgg3 rfl) (by rw [gnR_old _ (by omega) hkl, hy])) (Wd.u rfl) rfl rfl ?_
          refine LR.v (Y.cast (v2 := .int .i64 ((g y + 1 : Nat) : Int)) (Y.addi rfl rfl rfl (by omega)) (ivv (by omega))) (Wd.u rfl) rfl rfl ?_
          refine LR.v (Y.cast (v2 := .int .i64 ((max (gpr g L ps k) (g y + 1) : Nat) : Int)) (Y.maxi rfl rfl rfl) (ivv (by omega))) (Wd.u rfl) rfl rfl ?_
          refine LR.v (Y.owAddr og (i) rfl Try.runUnderlying38 Try.sizeOf3 rfl rfl (by first | rfl | omega) (by omega)) (Wd.u rfl) rfl rfl ?_
          refine LR.nil (hT14 _ ?_)
          refine LR.s (S.oww og (i) 0 (max (gpr g L ps k) (g y + 1)) rfl rfl rfl rfl Try.sizeOf3 (by omega) (by decide) (rfl)) (Wd.u rfl) rfl (fun H14_13 r14_13 => ?_)
          obtain ⟨og, hs14_13⟩ := r14_13
          replace hs14_13 := hs14_13.md
          replace hg := hg.upL hs14_13 (DFL.cons df17 DFL.nil)
          replace or18 := or18.upL hs14_13 (DL.cons dj18 DL.nil)
          replace hr39 := hr39.upL hs14_13 (DFL.cons df19 DFL.nil)
          replace hm0 := (Mo.trL (ks := []) (hm0.mdn []) hs14_13 (MIL.cons (MI.app MI.z (nx20) (Nat.le_refl _)) MIL.nil)).nil
          replace hlm1 := hlm1.trL hs14_13 (MIL.cons (MI.app (MI.root (by simp)) (nx21) (Nat.le_refl _)) MIL.nil)
          replace hlm2 := hlm2.trL hs14_13 (MIL.cons (MI.app (MI.root (by simp)) (nx22) (Nat.le_refl _)) MIL.nil)
          have hz9 := hs14_13.size
          refine LR.nil ?_
          refine hK24 _ _ ?_
          refine hK23 _ _ ?_
          refine CW.region ?_
          refine LR.v (Y.move rfl rfl) (Wd.u rfl) rfl rfl ?_
          refine LR.v (Y.addi rfl rfl rfl (by omega)) (Wd.u rfl) rfl rfl ?_
          refine LR.v (Y.assign rfl rfl) (Wd.u rfl) rfl rfl ?_
          refine LR.nil ?_
          refine QN.sub (hN20 (k + 1) _ ?_ ?_) ⟨rfl, rfl, rfl, (iv (by omega)), rfl, (iv (by omega)), trivial⟩
          · exact ⟨by rw [gpr_hit hkl (by rw [← hy]; exact c52), ← hy, ← gnR_set]; exact og, (by omega), nx22, hlm2⟩
          · first | omega | (simp only; omega) | (simp; omega)
        ·
          refine CW.skip ?_
          refine hK24 _ _ ?_
          refine hK23 _ _ ?_
          refine CW.region ?_
          refine LR.v (Y.move rfl rfl) (Wd.u rfl) rfl rfl ?_
          refine LR.v (Y.addi rfl rfl rfl (by omega)) (Wd.u rfl) rfl rfl ?_
          refine LR.v (Y.assign rfl rfl) (Wd.u rfl) rfl rfl ?_
          refine LR.nil ?_
          refine QN.sub (hN20 (k + 1) _ ?_ ?_) ⟨rfl, rfl, rfl, (iv (by omega)), rfl, (iv (by omega)), trivial⟩
          · exact ⟨by rw [gpr_miss hkl (by rw [← hy]; simpa using c52)]; exact og, (by omega), nx22, hlm2⟩
          · first | omega | (simp only; omega) | (simp; omega)
      ·
        obtain rfl : i = k := by omega
        have hgn := gnR_len (g := g) (L := L) (i := i) (c := gpr g L ps i)
        have hgx : g x = gpr g L ps i := by
          obtain ⟨qs, h1, h2⟩ := hpar i hil
          rw [← hx] at h1
          have e1 : ps = qs := by rw [← hpp]; unfold pp; rw [h1]; rfl
          rw [hgm x qs h1, e1, gpr_all h2]
        refine CW.exit (hE21 (.exit 2) nofun _ _ (hE20 (.exit 2) nofun _ _ (hX19 _ _ ?_)))
        refine hK17 _ _ ?_
        refine CW.region ?_
        refine LR.v (Y.move rfl rfl) (Wd.u rfl) rfl rfl ?_
        refine LR.v (Y.move rfl rfl) (Wd.u rfl) rfl rfl ?_
        refine LR.v (Y.owAddr og (i) rfl Try.runUnderlying38 Try.sizeOf3 rfl rfl (by first | rfl | omega) (by omega)) (Wd.u rfl) rfl rfl ?_
        refine LR.v (Y.cast (v2 := .int .i64 ((g x : Nat) : Int)) (Y.load1 (og.pt (j := i) (by omega)) rfl Try.isAgg3 rfl) (by rw [gnR_at, hgx])) (Wd.u rfl) rfl rfl ?_
        refine LR.v (Y.assign rfl rfl) (Wd.u rfl) rfl rfl ?_
        refine LR.nil ?_
        refine hK15 _ _ ?_
        refine hK14 _ _ ?_
        refine CW.region ?_
        refine LR.v (Y.move rfl rfl) (Wd.u rfl) rfl rfl ?_
        refine LR.v (Y.addi rfl rfl rfl (by omega)) (Wd.u rfl) rfl rfl ?_
        refine LR.v (Y.assign rfl rfl) (Wd.u rfl) rfl rfl ?_
        refine LR.nil ?_
        refine QN.sub (hN11 (i + 1, g x) _ ?_ ?_) ⟨rfl, rfl, rfl, (iv (by omega)), (iv (by omega)), trivial⟩
        · exact ⟨by rw [gnR_next hil rfl, ← hx, hgx]; exact og, (by omega), fun _ => ⟨by omega, by rw [hx]; rfl⟩, nx21, hlm1⟩
        · first | omega | (simp only; omega) | (simp; omega)
    ·
      refine CW.exit (hE12 (.exit 0) nofun _ _ (hE11 (.exit 0) nofun _ _ (hX10 _ _ ?_)))
      refine hK8 _ _ ?_
      refine CW.seq (fun K26 hK26 hE26 => ?_)
      refine CW.region ?_
      refine LR.v (Y.move rfl rfl) (Wd.u rfl) rfl rfl ?_
      refine LR.v (Y.assign rfl rfl) (Wd.u rfl) rfl rfl ?_
      refine LR.v (Y.assign rfl rfl) (Wd.u rfl) rfl rfl ?_
      refine LR.nil ?_
      refine hK26 _ _ ?_
      refine CW.ret (hret .ret (.inr rfl) _ _ _ (res2 rfl rfl rfl) ?_)
      obtain rfl : i = L.length := by omega
      obtain ⟨hl1, hnn⟩ := hnn hlp
      exact ⟨nn, 0, rfl, hR18.1, ⟨fun _ => by rw [hnn]; rw [List.getElem?_eq_getElem hl1] at hlast; rw [Option.some.inj hlast], fun h => absurd rfl h⟩, hm0⟩

end Go.Proofs.Ytepdhokpfecdnaa.GraZB
/-
  The document's graph: Bases.
-/
namespace Go.Proofs.Ytepdhokpfecdnaa.GraZC
open Go.Proofs.Ytepdhokpfecdnaa.E Go.RowKit Go.Proofs.Ytepdhokpfecdnaa.GraA Go.Proofs.Ytepdhokpfecdnaa.GraB Go.Proofs.Ytepdhokpfecdnaa.GraC Go.Proofs.Ytepdhokpfecdnaa.GraD Go.Proofs.Ytepdhokpfecdnaa.GraE Go.Proofs.Ytepdhokpfecdnaa.GraF Go.Proofs.Ytepdhokpfecdnaa.GraG Go.Proofs.Ytepdhokpfecdnaa.GraH Go.Proofs.Ytepdhokpfecdnaa.GraI Go.Proofs.Ytepdhokpfecdnaa.GraJ Go.Proofs.Ytepdhokpfecdnaa.GraK Go.Proofs.Ytepdhokpfecdnaa.GraL Go.Proofs.Ytepdhokpfecdnaa.GraM Go.Proofs.Ytepdhokpfecdnaa.GraN Go.Proofs.Ytepdhokpfecdnaa.GraO Go.Proofs.Ytepdhokpfecdnaa.GraP Go.Proofs.Ytepdhokpfecdnaa.GraX Go.Proofs.Ytepdhokpfecdnaa.GraY Go.Proofs.Ytepdhokpfecdnaa.GraZ Go.Proofs.Ytepdhokpfecdnaa.GraZA Go.Proofs.Ytepdhokpfecdnaa.GraZB
set_option maxRecDepth 20000
set_option linter.unusedVariables false
set_option linter.unusedSimpArgs false
set_option linter.unusedSectionVars false
set_option maxRecDepth 100000 in
theorem inf28 : Inf Try.prog 28 30 32 32 := ⟨Try.underlying28, _, _, rfl, rfl, rfl, rfl, rfl⟩

theorem tld_sub {pa : Ide → Option (List Ide)} {st st2 : List Ide} {e : Nat} (h : TldR pa st2 e) (ht : TldR pa st 0) (hs : ∀ k, (∃ i ∈ st2, UpO pa i k) → ∃ i ∈ st, UpO pa i k) : e = 0 := by
  rcases h with ⟨h, _⟩ | ⟨_, k, hk, hn⟩
  · exact h
  · have := ht.get k (hs k hk)
    rw [hn] at this; cases this
/-- no other one of these leads to it -/
noncomputable def bst (pa : Ide → Option (List Ide)) (both : List Ide) (x : Ide) : Bool := @decide (∀ y ∈ both, y ≠ x → ¬ UpO pa y x) (Classical.propDecidable _)
theorem bst_iff {pa : Ide → Option (List Ide)} {both : List Ide} {x : Ide} : bst pa both x = true ↔ ∀ y ∈ both, y ≠ x → ¬ UpO pa y x := by
  unfold bst
  exact @decide_eq_true_iff _ (Classical.propDecidable _)
theorem bst_best {pa : Ide → Option (List Ide)} {both : List Ide} {a b : Ide} (h : ∀ k, k ∈ both ↔ Com pa a b k) (k : Ide) : k ∈ both.filter (bst pa both) ↔ Best pa a b k := by
  rw [List.mem_filter, bst_iff, h]
  unfold Best
  constructor
  · rintro ⟨h1, h2⟩
    exact ⟨h1, fun j hj hu => Classical.byContradiction fun hn => h2 j ((h j).2 hj) hn hu⟩
  · rintro ⟨h1, h2⟩
    exact ⟨h1, fun y hy hn hu => hn (h2 y ((h y).1 hy) hu)⟩
/-- no other of the first k leads to the i-th -/
def BstK (pa : Ide → Option (List Ide)) (both : List Ide) (i k : Nat) (h : i < both.length) : Prop := ∀ j (hj : j < both.length), j < k → j ≠ i → ¬ UpO pa both[j] both[i]
theorem bstK_iff {pa : Ide → Option (List Ide)} {both : List Ide} {i k : Nat} (hr : Ris both) (h : i < both.length) (hk : both.length ≤ k) : BstK pa both i k h ↔ bst pa both both[i] = true := by
  rw [bst_iff]
  constructor
  · intro h2 y hy hn
    obtain ⟨j, hj, rfl⟩ := List.getElem_of_mem hy
    exact h2 j hj (by omega) (fun e => hn (by subst e; rfl))
  · intro h2 j hj _ hn
    exact h2 _ (List.getElem_mem hj) (fun e => hn ((List.getElem_inj (ris_nodup hr)).1 e))
/-- what the document's Bases tells -/
def RBs (pa : Ide → Option (List Ide)) (a b : Ide) (out : List Ide) (e : Nat) : Prop :=
  (e = 0 ∧ TldR pa [a, b] 0 ∧ Ris out ∧ out.length ≤ 16 ∧ ∀ k, k ∈ out ↔ Best pa a b k) ∨
  (e = 4 ∧ out = [] ∧ TldR pa [a, b] 0 ∧ ∃ l : List Ide, l.Nodup ∧ 16 < l.length ∧ ∀ k, k ∈ l ↔ Best pa a b k) ∨ (e = 2 ∧ out = [] ∧ TldR pa [a, b] 2)
theorem rbs_bsr {pa : Ide → Option (List Ide)} {a b : Ide} {out out2 : List Ide} {e e2 : Nat} (h : RBs pa a b out e) (h2 : BsR pa a b out2 e2) (h4 : ∀ K, ¬ AllR pa [a, b] K 4) : out2 = out ∧ e2 = e := by
  have t0 : TldR pa [a, b] 0 → ∀ K e3, AllR pa [a, b] K e3 → e3 = 0 := fun t K e3 hA => tld_all t hA (fun e => h4 K (e ▸ hA))
  have t2 : TldR pa [a, b] 2 → ∀ K e3, AllR pa [a, b] K e3 → e3 = 2 := fun t K e3 hA => tld_all t hA (fun e => h4 K (e ▸ hA))
  rcases h with ⟨rfl, hT, hr, hl, hm⟩ | ⟨rfl, rfl, hT, l, hn, hl, hm⟩ | ⟨rfl, rfl, hT⟩ <;>
    rcases h2 with ⟨rfl, ⟨K, hA⟩, hr2, hl2, hm2⟩ | ⟨rfl, rfl, ⟨K, hA⟩, l2, hn2, hl2, hm2⟩ | ⟨hne, rfl, K, hA⟩
  · exact ⟨ris_ext hr2 hr (fun x => by rw [hm, hm2]), rfl⟩
  · exfalso
    have := nodup_le hn2 (fun k hk => (hm k).2 ((hm2 k).1 hk))
    omega
  · exact absurd (t0 hT K _ hA) hne
  · exfalso
    have := nodup_le hn (fun k hk => (hm2 k).2 ((hm k).1 hk))
    omega
  · exact ⟨rfl, rfl⟩
  · exact absurd (t0 hT K _ hA) hne
  · have := t2 hT K _ hA; cases this
  · have := t2 hT K _ hA; cases this
  · exact ⟨rfl, t2 hT K _ hA⟩

set_option maxHeartbeats 4000000 in
theorem rbas_ct (gb : Nat) (nl : SV) (nd : List Nd) (F : Nat → Prop) (a b : Ide) (w0 : World) (H0 : Heap)
    (hg : GrR F H0 gb nl nd) (bf_hg : BF F H0.size) (hnd : NdOk nd) :
    Ct Try.prog w0 24 #[.pointer (some ⟨gb, 0, none⟩), vA a, vA b] H0 (fun r H2 => ∃ s : SV, ∃ k2 : Nat, ∃ out : List Ide, ∃ e : Nat, r = .tuple #[s.v, .int .i64 (e : Int)] ∧ (Ow k2 30 H2 fA 32 s.v out) ∧ (Nx 0 H0.size k2) ∧ (RBs (paR nd) a b out e) ∧ Nw H0 H2) := by
  refine Ct.enter (args := [.pointer (some ⟨gb, 0, none⟩), vA a, vA b]) Try.func24 rfl rfl rfl ?_
  intro Q0 hret
  have hm0 : Nw H0 H0 := Mo.refl _ _
  refine CW.seq (fun K1 hK1 hE1 => ?_)
  refine CW.region ?_
  refine LR.z (Z.boxv rfl rfl) (Wd.u rfl) rfl rfl (fun v4 H4 r4 => ?_)
  obtain ⟨rfl, va, hs4, ob4, hH4⟩ := r4
  have hzs4 : H4.size = H0.size + 1 := by rw [hH4]; simp
  have df1 := (DF.new (bf_hg.mono hm0.size) : DF _ (H0.size + 1))
  have nx2 : Nx 0 H0.size (H0.size + 1) := Nx.new hm0.size
  replace hg := hg.nw hs4
  replace hm0 := hm0.tr hs4
  have hz1 := hs4.size
  replace va : Var 30 H4 H0.size (fA a) := va
  refine LR.z (Z.boxv rfl rfl) (Wd.u rfl) rfl rfl (fun v5 H5 r5 => ?_)
  obtain ⟨rfl, vb, hs5, ob5, hH5⟩ := r5
  have hzs5 : H5.size = H4.size + 1 := by rw [hH5]; simp
  have df3 := (DF.new (bf_hg.mono hm0.size) : DF _ (H4.size + 1))
  have dj4 : Dj (H0.size + 1) (H4.size + 1) := Dj.new va.lt
  have nx5 : Nx 0 H0.size (H4.size + 1) := Nx.new hm0.size
  replace hg := hg.nw hs5
  replace va := va.nw hs5
  replace hm0 := hm0.tr hs5
  have hz2 := hs5.size
  replace vb : Var 30 H5 H4.size (fA b) := vb
  refine LR.v (Y.assign rfl rfl) (Wd.u rfl) rfl rfl ?_
  refine LR.v (Y.assign rfl rfl) (Wd.u rfl) rfl rfl ?_
  refine LR.nil ?_
  refine hK1 _ _ ?_
  refine CW.seq (fun K2 hK2 hE2 => ?_)
  refine CW.region ?_
  refine LR.v (Y.move rfl rfl) (Wd.u rfl) rfl rfl ?_
  refine LR.v (Y.loadN va.pt rfl Try.isAgg30 Try.sizeOf30 (fA_len _) rfl) (Wd.u rfl) rfl rfl ?_
  refine LR.v (Y.loadN vb.pt rfl Try.isAgg30 Try.sizeOf30 (fA_len _) rfl) (Wd.u rfl) rfl rfl ?_
  refine LR.z (Z.litw _ ([a, b]) rfl inf28 rfl rfl rfl (by decide) (by decide) fA_len fA_one (rfl)) (Wd.u rfl) rfl rfl (fun v26 H26 r26 => ?_)
  obtain ⟨ow26, hs26, ob26, hH26⟩ := r26
  have hzs26 : H26.size = H5.size + 1 := by rw [hH26]; simp
  have df6 := (DF.new (bf_hg.mono hm0.size) : DF _ (H5.size + 1))
  have dj7 : Dj (H0.size + 1) (H5.size + 1) := Dj.new va.lt
  have dj8 : Dj (H4.size + 1) (H5.size + 1) := Dj.new vb.lt
  have nx9 : Nx 0 H0.size (H5.size + 1) := Nx.new hm0.size
  replace hg := hg.nw hs26
  replace va := va.nw hs26
  replace vb := vb.nw hs26
  replace hm0 := hm0.tr hs26
  have hz3 := hs26.size
  -- call (*selvage/selvageref11.Graph).Ups
  refine LR.call rfl Try.call34 rfl (Wd.u rfl) rfl rfl (ups_ct gb nl nd F _ [a, b] w0 _ hg (bf_hg.mono (by omega)) ow26.rd.any (by simp) hnd) (fun v27 H27 r27 => ?_)
  obtain ⟨s27, k27, l27, e27, rfl, or27, hk27, hU27, hl27, hs27⟩ := r27
  have df10 := DF.app (DF.z) (bf_hg.mono hm0.size) hk27
  have dj11 : Dj (H0.size + 1) k27 := Dj.app (Dj.z) va.lt hk27
  have dj12 : Dj (H4.size + 1) k27 := Dj.app (Dj.z) vb.lt hk27
  have dj13 : Dj (H5.size + 1) k27 := Dj.app (Dj.z) ow26.le hk27
  have nx14 : Nx 0 H0.size k27 := Nx.tr (Nx.refl 0 _) hk27 hm0.size
  replace hg := hg.nw hs27
  replace va := va.nw hs27
  replace vb := vb.nw hs27
  replace ow26 := ow26.nw hs27
  replace hm0 := hm0.tr hs27
  have hz4 := hs27.size
  have hle_or27 := or27.le
  refine LR.v (Y.move rfl rfl) (Wd.u rfl) rfl rfl ?_
  refine LR.v (Y.cast (v2 := s27.v) (Y.extract rfl rfl rfl) (rfl)) (Wd.u rfl) rfl rfl ?_
  refine LR.v (Y.cast (v2 := .int .i64 (e27 : Int)) (Y.extract rfl rfl rfl) (rfl)) (Wd.u rfl) rfl rfl ?_
  refine LR.v (Y.assign rfl rfl) (Wd.u rfl) rfl rfl ?_
  refine LR.v (Y.assign rfl rfl) (Wd.u rfl) rfl rfl ?_
  refine LR.nil ?_
  refine hK2 _ _ ?_
  refine CW.seq (fun K3 hK3 hE3 => ?_)
  refine CW.seq (fun K4 hK4 hE4 => ?_)
  refine CW.region ?_
  refine LR.v (Y.move rfl rfl) (Wd.u rfl) rfl rfl ?_
  refine LR.v (Y.neq rfl rfl rfl) (Wd.u rfl) rfl rfl ?_
  refine LR.nil ?_
  refine hK4 _ _ ?_
  refine CW.condp rfl (fun c31 => ?_) (fun c31 => ?_)
  ·
    refine CW.seq (fun K5 hK5 hE5 => ?_)
    refine CW.region ?_
    refine LR.v (Y.move rfl rfl) (Wd.u rfl) rfl rfl ?_
    refine LR.v (Y.assign rfl rfl) (Wd.u rfl) rfl rfl ?_
    refine LR.v (Y.assign rfl rfl) (Wd.u rfl) rfl rfl ?_
    refine LR.nil ?_
    refine hK5 _ _ ?_
    refine CW.ret (hE3 .ret nofun _ _ (hret .ret (.inr rfl) _ _ _ (res2 rfl rfl rfl) ?_))
    exact ⟨⟨none, 0, 0⟩, 0, [], e27, rfl, Ow.nil fA_len fA_one, Nx.refl _ _, by
        have ht := UpsR.tld hU27
        rcases ht with ⟨h, _⟩ | ⟨h, h2⟩
        · omega
        · exact .inr (.inr ⟨h, rfl, .inr ⟨rfl, h2⟩⟩), hm0⟩
  ·
    obtain rfl : e27 = 0 := by omega
    have hT27 := UpsR.tld hU27
    refine CW.skip ?_
    refine hK3 _ _ ?_
    refine CW.seq (fun K6 hK6 hE6 => ?_)
    refine CW.region ?_
    refine LR.v (Y.move rfl rfl) (Wd.u rfl) rfl rfl ?_
    refine LR.v (Y.loadN va.pt rfl Try.isAgg30 Try.sizeOf30 (fA_len _) rfl) (Wd.u rfl) rfl rfl ?_
    refine LR.z (Z.litw _ ([a]) rfl inf28 rfl rfl rfl (by decide) (by decide) fA_len fA_one (rfl)) (Wd.u rfl) rfl rfl (fun v36 H36 r36 => ?_)
    obtain ⟨ow36, hs36, ob36, hH36⟩ := r36
    have hzs36 : H36.size = H27.size + 1 := by rw [hH36]; simp
    have df15 := (DF.new (bf_hg.mono hm0.size) : DF _ (H27.size + 1))
    have dj16 : Dj (H0.size + 1) (H27.size + 1) := Dj.new va.lt
    have dj17 : Dj (H4.size + 1) (H27.size + 1) := Dj.new vb.lt
    have dj18 : Dj k27 (H27.size + 1) := Dj.new or27.le
    have nx19 : Nx 0 H0.size (H27.size + 1) := Nx.new hm0.size
    replace hg := hg.nw hs36
    replace va := va.nw hs36
    replace vb := vb.nw hs36
    replace or27 := or27.nw hs36
    replace hm0 := hm0.tr hs36
    have hz5 := hs36.size
    -- call (*selvage/selvageref11.Graph).Ups
    refine LR.call rfl Try.call34 rfl (Wd.u rfl) rfl rfl (ups_ct gb nl nd F _ [a] w0 _ hg (bf_hg.mono (by omega)) ow36.rd.any (by simp) hnd) (fun v37 H37 r37 => ?_)
    obtain ⟨s37, k37, l37, e37, rfl, or37, hk37, hU37, hl37, hs37⟩ := r37
    have df20 := DF.app (DF.z) (bf_hg.mono hm0.size) hk37
    have dj21 : Dj (H0.size + 1) k37 := Dj.app (Dj.z) va.lt hk37
    have dj22 : Dj (H4.size + 1) k37 := Dj.app (Dj.z) vb.lt hk37
    have dj23 : Dj k27 k37 := Dj.app (Dj.z) or27.le hk37
    have dj24 : Dj (H27.size + 1) k37 := Dj.app (Dj.z) ow36.le hk37
    have nx25 : Nx 0 H0.size k37 := Nx.tr (Nx.refl 0 _) hk37 hm0.size
    replace hg := hg.nw hs37
    replace va := va.nw hs37
    replace vb := vb.nw hs37
    replace or27 := or27.nw hs37
    replace ow36 := ow36.nw hs37
    replace hm0 := hm0.tr hs37
    have hz6 := hs37.size
    have hle_or37 := or37.le
    refine LR.v (Y.move rfl rfl) (Wd.u rfl) rfl rfl ?_
    refine LR.v (Y.cast (v2 := s37.v) (Y.extract rfl rfl rfl) (rfl)) (Wd.u rfl) rfl rfl ?_
    refine LR.v (Y.cast (v2 := .int .i64 (e37 : Int)) (Y.extract rfl rfl rfl) (rfl)) (Wd.u rfl) rfl rfl ?_
    refine LR.v (Y.assign rfl rfl) (Wd.u rfl) rfl rfl ?_
    refine LR.v (Y.assign rfl rfl) (Wd.u rfl) rfl rfl ?_
    refine LR.nil ?_
    refine hK6 _ _ ?_
    refine CW.seq (fun K7 hK7 hE7 => ?_)
    refine CW.region ?_
    refine LR.v (Y.move rfl rfl) (Wd.u rfl) rfl rfl ?_
    refine LR.v (Y.loadN vb.pt rfl Try.isAgg30 Try.sizeOf30 (fA_len _) rfl) (Wd.u rfl) rfl rfl ?_
    refine LR.z (Z.litw _ ([b]) rfl inf28 rfl rfl rfl (by decide) (by decide) fA_len fA_one (rfl)) (Wd.u rfl) rfl rfl (fun v43 H43 r43 => ?_)
    obtain ⟨ow43, hs43, ob43, hH43⟩ := r43
    have hzs43 : H43.size = H37.size + 1 := by rw [hH43]; simp
    have df26 := (DF.new (bf_hg.mono hm0.size) : DF _ (H37.size + 1))
    have dj27 : Dj (H4.size + 1) (H37.size + 1) := Dj.new vb.lt
    have dj28 : Dj k27 (H37.size + 1) := Dj.new or27.le
    have dj29 : Dj k37 (H37.size + 1) := Dj.new or37.le
    have nx30 : Nx 0 H0.size (H37.size + 1) := Nx.new hm0.size
    replace hg := hg.nw hs43
    replace vb := vb.nw hs43
    replace or27 := or27.nw hs43
    replace or37 := or37.nw hs43
    replace hm0 := hm0.tr hs43
    have hz7 := hs43.size
    -- call (*selvage/selvageref11.Graph).Ups
    refine LR.call rfl Try.call34 rfl (Wd.u rfl) rfl rfl (ups_ct gb nl nd F _ [b] w0 _ hg (bf_hg.mono (by omega)) ow43.rd.any (by simp) hnd) (fun v44 H44 r44 => ?_)
    obtain ⟨s44, k44, l44, e44, rfl, or44, hk44, hU44, hl44, hs44⟩ := r44
    have df31 := DF.app (DF.z) (bf_hg.mono hm0.size) hk44
    have dj32 : Dj (H4.size + 1) k44 := Dj.app (Dj.z) vb.lt hk44
    have dj33 : Dj k27 k44 := Dj.app (Dj.z) or27.le hk44
    have dj34 : Dj k37 k44 := Dj.app (Dj.z) or37.le hk44
    have dj35 : Dj (H37.size + 1) k44 := Dj.app (Dj.z) ow43.le hk44
    have nx36 : Nx 0 H0.size k44 := Nx.tr (Nx.refl 0 _) hk44 hm0.size
    replace hg := hg.nw hs44
    replace vb := vb.nw hs44
    replace or27 := or27.nw hs44
    replace or37 := or37.nw hs44
    replace ow43 := ow43.nw hs44
    replace hm0 := hm0.tr hs44
    have hz8 := hs44.size
    have hle_or44 := or44.le
    refine LR.v (Y.move rfl rfl) (Wd.u rfl) rfl rfl ?_
    refine LR.v (Y.cast (v2 := s44.v) (Y.extract rfl rfl rfl) (rfl)) (Wd.u rfl) rfl rfl ?_
    refine LR.v (Y.cast (v2 := .int .i64 (e44 : Int)) (Y.extract rfl rfl rfl) (rfl)) (Wd.u rfl) rfl rfl ?_
    refine LR.v (Y.assign rfl rfl) (Wd.u rfl) rfl rfl ?_
    refine LR.v (Y.assign rfl rfl) (Wd.u rfl) rfl rfl ?_
    refine LR.nil ?_
    refine hK7 _ _ ?_
    refine CW.seq (fun K8 hK8 hE8 => ?_)
    refine CW.region ?_
    refine LR.v (Y.assign rfl rfl) (Wd.u rfl) rfl rfl ?_
    refine LR.v (Y.assign rfl rfl) (Wd.u rfl) rfl rfl ?_
    refine LR.nil ?_
    refine hK8 _ _ ?_
    refine CW.seq (fun K9 hK9 hE9 => ?_)
    refine CW.seq (fun K10 hK10 hE10 => ?_)
    refine CW.region ?_
    refine LR.v (Y.assign rfl rfl) (Wd.u rfl) rfl rfl ?_
    refine LR.nil ?_
    refine hK10 _ _ ?_
    refine CW.block (fun K11 hK11 hX11 hE11 => ?_)
    refine CW.loop (fun (s_ : (Nat) × (Value) × (Nat)) => match s_ with | (i, vB, kB) => [(0, .pointer (some ⟨gb, 0, none⟩)), (10, s37.v), (12, s44.v), (14, vB), (15, .slice none 0 0), (16, .int .i64 (i : Int))])
      (fun (s_ : (Nat) × (Value) × (Nat)) (H : Heap) => match s_ with | (i, vB, kB) => (i ≤ l37.length) ∧ (Ow kB 30 H fA 32 vB ((l37.take i).filter (fun k => decide (k ∈ l44)))) ∧ (Nx 0 H44.size kB) ∧ Nw H44 H)
      (fun (s_ : (Nat) × (Value) × (Nat)) => match s_ with | (i, vB, kB) => l37.length - i) (0, .slice none 0 0, 0) ⟨rfl, rfl, rfl, rfl, rfl, rfl, trivial⟩ ?_ ?_
    ·
      exact ⟨(by omega), Ow.nil fA_len fA_one, Nx.refl _ _, Mo.refl _ _⟩
    rintro ⟨i, vB, kB⟩ HL1 hI1 K12 hN12 hE12
    obtain ⟨hi, oB, nxl_oB, hlm1⟩ := hI1
    have df37 := DF.app (DF.z) (bf_hg.mono hm0.size) nxl_oB
    have dj38 : Dj k27 kB := Dj.app (Dj.z) or27.le nxl_oB
    have dj39 : Dj k37 kB := Dj.app (Dj.z) or37.le nxl_oB
    have dj40 : Dj k44 kB := Dj.app (Dj.z) or44.le nxl_oB
    have nx41 : Nx 0 H0.size kB := Nx.tr (Nx.refl 0 _) nxl_oB hm0.size
    replace hg := hg.nw hlm1
    replace or27 := or27.nw hlm1
    replace or37 := or37.nw hlm1
    replace or44 := or44.nw hlm1
    replace hm0 := hm0.tr hlm1
    have hz9 := hlm1.size
    have hle_oB := oB.le
    have nx42 := nxl_oB
    refine CW.seq (fun K13 hK13 hE13 => ?_)
    refine CW.seq (fun K14 hK14 hE14 => ?_)
    refine CW.region ?_
    refine LR.v (Y.move rfl rfl) (Wd.u rfl) rfl rfl ?_
    refine LR.v (Y.move rfl rfl) (Wd.u rfl) rfl rfl ?_
    refine LR.v (Y.len or37.rd rfl Try.runUnderlying28 rfl) (Wd.u rfl) rfl rfl ?_
    refine LR.v (Y.lss rfl rfl rfl) (Wd.u rfl) rfl rfl ?_
    refine LR.nil ?_
    refine hK14 _ _ ?_
    refine CW.condp rfl (fun c50 => ?_) (fun c50 => ?_)
    ·
      have hil : i < l37.length := by omega
      obtain ⟨y, hy⟩ : ∃ y, y = l37[i] := ⟨_, rfl⟩
      have hfl9 := filt_len (l := l37) (p := fun k => decide (k ∈ l44)) (i := i)
      refine CW.skip ?_
      refine hK13 _ _ ?_
      refine CW.seq (fun K15 hK15 hE15 => ?_)
      refine CW.block (fun K16 hK16 hX16 hE16 => ?_)
      refine CW.seq (fun K17 hK17 hE17 => ?_)
      refine CW.region ?_
      refine LR.v (Y.move rfl rfl) (Wd.u rfl) rfl rfl ?_
      refine LR.v (Y.move rfl rfl) (Wd.u rfl) rfl rfl ?_
      refine LR.v (Y.move rfl rfl) (Wd.u rfl) rfl rfl ?_
      refine LR.v (Y.owAddr or37 (i) rfl Try.runUnderlying28 Try.sizeOf30 rfl rfl (by first | rfl | omega) (by omega)) (Wd.u rfl) rfl rfl ?_
      refine LR.v (Y.cast (v2 := vA y) (Y.loadN (or37.pt (j := i) (by omega)) rfl Try.isAgg30 Try.sizeOf30 (fA_len _) rfl) (by rw [hy]; rfl)) (Wd.u rfl) rfl rfl ?_
      -- call selvage/selvageref1.Has
      refine LR.call rfl Try.call35 rfl (Wd.u rfl) rfl rfl (rhas_ct _ l44 y w0 _ or44.rd.any) (fun v58 H58 r58 => ?_)
      obtain ⟨rfl, hs58⟩ := r58
      replace hg := hg.nw hs58
      replace or27 := or27.nw hs58
      replace or37 := or37.nw hs58
      replace or44 := or44.nw hs58
      replace oB := oB.nw hs58
      replace hm0 := hm0.tr hs58
      replace hlm1 := hlm1.tr hs58
      have hz10 := hs58.size
      refine LR.nil ?_
      refine hK17 _ _ ?_
      refine CW.condp rfl (fun c58 => ?_) (fun c58 => ?_)
      ·
        refine CW.region ?_
        refine LR.v (Y.move rfl rfl) (Wd.u rfl) rfl rfl ?_
        refine LR.v (Y.move rfl rfl) (Wd.u rfl) rfl rfl ?_
        refine LR.v (Y.move rfl rfl) (Wd.u rfl) rfl rfl ?_
        refine LR.v (Y.owAddr or37 (i) rfl Try.runUnderlying28 Try.sizeOf30 rfl rfl (by first | rfl | omega) (by omega)) (Wd.u rfl) rfl rfl ?_
        refine LR.v (Y.cast (v2 := vA y) (Y.loadN (or37.pt (j := i) (by omega)) rfl Try.isAgg30 Try.sizeOf30 (fA_len _) rfl) (by rw [hy]; rfl)) (Wd.u rfl) rfl rfl ?_
        refine LR.z (Z.litw _ ([y]) rfl inf28 rfl rfl rfl (by decide) (by decide) fA_len fA_one (rfl)) (Wd.u rfl) rfl rfl (fun v64 H64 r64 => ?_)
        obtain ⟨ow64, hs64, ob64, hH64⟩ := r64
        have hzs64 : H64.size = H58.size + 1 := by rw [hH64]; simp
        have df43 := (DF.new (bf_hg.mono hm0.size) : DF _ (H58.size + 1))
        have dj44 : Dj k27 (H58.size + 1) := Dj.new or27.le
        have dj45 : Dj k37 (H58.size + 1) := Dj.new or37.le
        have dj46 : Dj k44 (H58.size + 1) := Dj.new or44.le
        have dj47 : Dj kB (H58.size + 1) := Dj.new oB.le
        have nx48 : Nx 0 H0.size (H58.size + 1) := Nx.new hm0.size
        have nx49 : Nx 0 H44.size (H58.size + 1) := Nx.new hlm1.size
        replace hg := hg.nw hs64
        replace or27 := or27.nw hs64
        replace or37 := or37.nw hs64
        replace or44 := or44.nw hs64
        replace oB := oB.nw hs64
        replace hm0 := hm0.tr hs64
        replace hlm1 := hlm1.tr hs64
        have hz11 := hs64.size
        refine LR.z (Z.apnd oB ow64.rd rfl inf28 rfl rfl (by rw [List.length_singleton]; omega) (by rw [List.length_singleton]; omega)) (Wd.u rfl) rfl rfl (fun v65 H65 r65 => ?_)
        obtain ⟨k65, oB, hk65, hs65⟩ := r65
        replace hk65 : Nx kB H64.size k65 := hk65
        replace hs65 := hs65.md
        have df50 := DF.app (df37) (bf_hg.mono hm0.size) hk65
        have dj51 : Dj k27 k65 := Dj.app (dj38) or27.le hk65
        have dj52 : Dj k37 k65 := Dj.app (dj39) or37.le hk65
        have dj53 : Dj k44 k65 := Dj.app (dj40) or44.le hk65
        have dj54 : Dj (H58.size + 1) k65 := Dj.app (dj47.symm) ow64.le hk65
        have nx55 : Nx 0 H0.size k65 := Nx.tr (nx41) hk65 hm0.size
        have nx56 : Nx 0 H44.size k65 := Nx.tr (nx42) hk65 hlm1.size
        replace hg := hg.upL hs65 (DFL.cons df37 DFL.nil)
        replace or27 := or27.upL hs65 (DL.cons dj38 DL.nil)
        replace or37 := or37.upL hs65 (DL.cons dj39 DL.nil)
        replace or44 := or44.upL hs65 (DL.cons dj40 DL.nil)
        replace ow64 := ow64.upL hs65 (DL.cons dj47.symm DL.nil)
        replace hm0 := (Mo.trL (ks := []) (hm0.mdn []) hs65 (MIL.cons (MI.app MI.z (nx41) (Nat.le_refl _)) MIL.nil)).nil
        replace hlm1 := (Mo.trL (ks := []) (hlm1.mdn []) hs65 (MIL.cons (MI.app MI.z (nx42) (Nat.le_refl _)) MIL.nil)).nil
        have hz12 := hs65.size
        have hle_oB := oB.le
        refine LR.v (Y.assign rfl rfl) (Wd.u rfl) rfl rfl ?_
        refine LR.nil ?_
        refine hK16 _ _ ?_
        refine hK15 _ _ ?_
        refine CW.region ?_
        refine LR.v (Y.move rfl rfl) (Wd.u rfl) rfl rfl ?_
        refine LR.v (Y.addi rfl rfl rfl (by omega)) (Wd.u rfl) rfl rfl ?_
        refine LR.v (Y.assign rfl rfl) (Wd.u rfl) rfl rfl ?_
        refine LR.nil ?_
        refine QN.sub (hN12 (i + 1, v65, k65) _ ?_ ?_) ⟨rfl, rfl, rfl, rfl, rfl, (iv (by omega)), trivial⟩
        · exact ⟨(by omega), by rw [filt_take hil, if_pos (by rw [← hy]; exact decide_eq_true c58), ← hy]; exact oB, nx56, hlm1⟩
        · first | omega | (simp only; omega) | (simp; omega)
      ·
        refine CW.skip ?_
        refine hK16 _ _ ?_
        refine hK15 _ _ ?_
        refine CW.region ?_
        refine LR.v (Y.move rfl rfl) (Wd.u rfl) rfl rfl ?_
        refine LR.v (Y.addi rfl rfl rfl (by omega)) (Wd.u rfl) rfl rfl ?_
        refine LR.v (Y.assign rfl rfl) (Wd.u rfl) rfl rfl ?_
        refine LR.nil ?_
        refine QN.sub (hN12 (i + 1, vB, kB) _ ?_ ?_) ⟨rfl, rfl, rfl, rfl, rfl, (iv (by omega)), trivial⟩
        · exact ⟨(by omega), by rw [filt_take hil, if_neg (by rw [← hy]; simpa using c58), List.append_nil]; exact oB, nx42, hlm1⟩
        · first | omega | (simp only; omega) | (simp; omega)
    ·
      obtain ⟨hr37, hm37⟩ := UpsR.sub hU37 hT27 (fun k ⟨i, hi, hu⟩ => ⟨i, by simp only [List.mem_singleton] at hi; subst hi; simp, hu⟩)
      obtain ⟨_, hm44⟩ := UpsR.sub hU44 hT27 (fun k ⟨i, hi, hu⟩ => ⟨i, by simp only [List.mem_singleton] at hi; subst hi; simp, hu⟩)
      rw [List.take_of_length_le (show l37.length ≤ i by omega)] at oB
      obtain ⟨both, hboth⟩ : ∃ both, both = (l37.filter (fun k => decide (k ∈ l44))) := ⟨_, rfl⟩
      rw [← hboth] at oB
      have hbl : both.length ≤ 1000 := by rw [hboth]; exact Nat.le_trans (List.length_filter_le _ _) hl37
      have hbr : Ris both := by rw [hboth]; exact List.Pairwise.filter _ hr37
      have hbm : ∀ k, k ∈ both ↔ Com (paR nd) a b k := fun k => by rw [hboth, List.mem_filter, decide_eq_true_eq, hm37, hm44]; unfold Com; simp
      refine CW.exit (hE13 (.exit 0) nofun _ _ (hE12 (.exit 0) nofun _ _ (hX11 _ _ ?_)))
      refine hK9 _ _ ?_
      refine CW.seq (fun K18 hK18 hE18 => ?_)
      refine CW.seq (fun K19 hK19 hE19 => ?_)
      refine CW.region ?_
      refine LR.v (Y.assign rfl rfl) (Wd.u rfl) rfl rfl ?_
      refine LR.nil ?_
      refine hK19 _ _ ?_
      refine CW.block (fun K20 hK20 hX20 hE20 => ?_)
      refine CW.loop (fun (s_ : (Nat) × (Value) × (Nat)) => match s_ with | (i2, vo, ko) => [(0, .pointer (some ⟨gb, 0, none⟩)), (14, vB), (15, vo), (17, .int .i64 (i2 : Int))])
        (fun (s_ : (Nat) × (Value) × (Nat)) (H : Heap) => match s_ with | (i2, vo, ko) => (i2 ≤ both.length) ∧ (Ow ko 30 H fA 32 vo ((both.take i2).filter (bst (paR nd) both))) ∧ (Nx 0 HL1.size ko) ∧ Nw HL1 H)
        (fun (s_ : (Nat) × (Value) × (Nat)) => match s_ with | (i2, vo, ko) => both.length - i2) (0, .slice none 0 0, 0) ⟨rfl, rfl, rfl, rfl, trivial⟩ ?_ ?_
      ·
        exact ⟨(by omega), Ow.nil fA_len fA_one, Nx.refl _ _, Mo.refl _ _⟩
      rintro ⟨i2, vo, ko⟩ HL2 hI2 K21 hN21 hE21
      obtain ⟨hi2, oo, nxl_oo, hlm2⟩ := hI2
      have df57 := DF.app (DF.z) (bf_hg.mono hm0.size) nxl_oo
      have dj58 : Dj k27 ko := Dj.app (Dj.z) or27.le nxl_oo
      have dj59 : Dj k37 ko := Dj.app (Dj.z) or37.le nxl_oo
      have dj60 : Dj k44 ko := Dj.app (Dj.z) or44.le nxl_oo
      have dj61 : Dj kB ko := Dj.app (Dj.z) oB.le nxl_oo
      have nx62 : Nx 0 H0.size ko := Nx.tr (Nx.refl 0 _) nxl_oo hm0.size
      replace hg := hg.nw hlm2
      replace or27 := or27.nw hlm2
      replace or37 := or37.nw hlm2
      replace or44 := or44.nw hlm2
      replace oB := oB.nw hlm2
      replace hm0 := hm0.tr hlm2
      have hz13 := hlm2.size
      have hle_oo := oo.le
      have nx63 := nxl_oo
      refine CW.seq (fun K22 hK22 hE22 => ?_)
      refine CW.seq (fun K23 hK23 hE23 => ?_)
      refine CW.region ?_
      refine LR.v (Y.move rfl rfl) (Wd.u rfl) rfl rfl ?_
      refine LR.v (Y.move rfl rfl) (Wd.u rfl) rfl rfl ?_
      refine LR.v (Y.len oB.rd rfl Try.runUnderlying28 rfl) (Wd.u rfl) rfl rfl ?_
      refine LR.v (Y.lss rfl rfl rfl) (Wd.u rfl) rfl rfl ?_
      refine LR.nil ?_
      refine hK23 _ _ ?_
      refine CW.condp rfl (fun c69 => ?_) (fun c69 => ?_)
      ·
        have hil : i2 < both.length := by omega
        obtain ⟨x, hx⟩ : ∃ x, x = both[i2] := ⟨_, rfl⟩
        have hfl9 := filt_len (l := both) (p := bst (paR nd) both) (i := i2)
        refine CW.skip ?_
        refine hK22 _ _ ?_
        refine CW.seq (fun K24 hK24 hE24 => ?_)
        refine CW.block (fun K25 hK25 hX25 hE25 => ?_)
        refine CW.seq (fun K26 hK26 hE26 => ?_)
        refine CW.region ?_
        refine LR.v (Y.assign rfl rfl) (Wd.u rfl) rfl rfl ?_
        refine LR.nil ?_
        refine hK26 _ _ ?_
        refine CW.cut (fun (bt : (Bool)) => [(0, .pointer (some ⟨gb, 0, none⟩)), (14, vB), (15, vo), (17, .int .i64 (i2 : Int)), (18, .bool bt)])
          (fun (bt : (Bool)) (H : Heap) => (bt = true ↔ bst (paR nd) both both[i2] = true) ∧ Nw HL2 H) (fun K27 hK27 hE27 => ?_) ?_
        ·
          have hcm27 : Nw HL2 HL2 := Mo.refl _ _
          refine CW.seq (fun K28 hK28 hE28 => ?_)
          refine CW.region ?_
          refine LR.v (Y.assign rfl rfl) (Wd.u rfl) rfl rfl ?_
          refine LR.nil ?_
          refine hK28 _ _ ?_
          refine CW.block (fun K29 hK29 hX29 hE29 => ?_)
          refine CW.loop (fun (s_ : (Nat) × (Bool)) => match s_ with | (k, bt) => [(0, .pointer (some ⟨gb, 0, none⟩)), (14, vB), (15, vo), (17, .int .i64 (i2 : Int)), (18, .bool bt), (19, .int .i64 (k : Int))])
            (fun (s_ : (Nat) × (Bool)) (H : Heap) => match s_ with | (k, bt) => (k ≤ both.length) ∧ (bt = true ↔ BstK (paR nd) both i2 k hil) ∧ Nw HL2 H)
            (fun (s_ : (Nat) × (Bool)) => match s_ with | (k, bt) => both.length - k) (0, true) ⟨rfl, rfl, rfl, rfl, rfl, rfl, trivial⟩ ?_ ?_
          ·
            exact ⟨(by omega), ⟨fun _ j _ h => absurd h (by omega), fun _ => rfl⟩, Mo.refl _ _⟩
          rintro ⟨k, bt⟩ HL3 hI3 K30 hN30 hE30
          obtain ⟨hk, hb, hlm3⟩ := hI3
          replace hg := hg.nw hlm3
          replace or27 := or27.nw hlm3
          replace or37 := or37.nw hlm3
          replace or44 := or44.nw hlm3
          replace oB := oB.nw hlm3
          replace oo := oo.nw hlm3
          replace hm0 := hm0.tr hlm3
          replace hlm2 := hlm2.tr hlm3
          replace hcm27 := hcm27.tr hlm3
          have hz14 := hlm3.size
          refine CW.seq (fun K31 hK31 hE31 => ?_)
          refine CW.seq (fun K32 hK32 hE32 => ?_)
          refine CW.region ?_
          refine LR.v (Y.move rfl rfl) (Wd.u rfl) rfl rfl ?_
          refine LR.v (Y.move rfl rfl) (Wd.u rfl) rfl rfl ?_
          refine LR.v (Y.len oB.rd rfl Try.runUnderlying28 rfl) (Wd.u rfl) rfl rfl ?_
          refine LR.v (Y.lss rfl rfl rfl) (Wd.u rfl) rfl rfl ?_
          refine LR.v (Y.move rfl rfl) (Wd.u rfl) rfl rfl ?_
          refine LR.splitp (d := 76) rfl (fun g76 => ?_) (fun g76 => ?_)
          ·
            refine LR.v (Y.move rfl rfl) (Wd.g rfl rfl rfl) rfl rfl ?_
            refine LR.v (Y.pick_t rfl rfl rfl) (Wd.u rfl) rfl rfl ?_
            refine LR.nil ?_
            refine hK32 _ _ ?_
            refine CW.cond rfl (fun c78 => ?_) (fun c78 => ?_)
            ·
              have hkl : k < both.length := by omega
              obtain ⟨y, hy⟩ : ∃ y, y = both[k] := ⟨_, rfl⟩
              refine CW.skip ?_
              refine hK31 _ _ ?_
              refine CW.seq (fun K33 hK33 hE33 => ?_)
              refine CW.block (fun K34 hK34 hX34 hE34 => ?_)
              refine CW.seq (fun K35 hK35 hE35 => ?_)
              refine CW.region ?_
              refine LR.v (Y.move rfl rfl) (Wd.u rfl) rfl rfl ?_
              refine LR.v (Y.move rfl rfl) (Wd.u rfl) rfl rfl ?_
              refine LR.v (Y.neq rfl rfl rfl) (Wd.u rfl) rfl rfl ?_
              refine LR.nil ?_
              refine hK35 _ _ ?_
              refine CW.condp rfl (fun c83 => ?_) (fun c83 => ?_)
              ·
                refine CW.seq (fun K36 hK36 hE36 => ?_)
                refine CW.region_any (fun Hq => Nw HL3 Hq) [] rfl ?_
                have hqs := Nw.refl HL3
                refine LH.take 0 (by kernel_rfl) rfl (by kernel_rfl) (by kernel_rfl) (by kernel_rfl) (fun Hq hq => Y.move rfl rfl) (Wd.u rfl) rfl rfl hqs ?_
                refine LH.take 1 (by kernel_rfl) rfl (by kernel_rfl) (by kernel_rfl) (by kernel_rfl) (fun Hq hq => Y.move rfl rfl) (Wd.u rfl) rfl rfl hqs ?_
                refine LH.take 2 (by kernel_rfl) rfl (by kernel_rfl) (by kernel_rfl) (by kernel_rfl) (fun Hq hq => Y.move rfl rfl) (Wd.u rfl) rfl rfl hqs ?_
                refine LH.take 3 (by kernel_rfl) rfl (by kernel_rfl) (by kernel_rfl) (by kernel_rfl) (fun Hq hq => Y.owAddr (oB.nw hq) (i2) rfl Try.runUnderlying28 Try.sizeOf30 rfl rfl (by first | rfl | omega) (by omega)) (Wd.u rfl) rfl rfl hqs ?_
                refine LH.take 4 (by kernel_rfl) rfl (by kernel_rfl) (by kernel_rfl) (by kernel_rfl) (fun Hq hq => Y.cast (v2 := vA x) (Y.loadN ((oB.pt (j := i2) (by omega)).nw hq) rfl Try.isAgg30 Try.sizeOf30 (fA_len _) rfl) (by rw [hx]; rfl)) (Wd.u rfl) rfl rfl hqs ?_
                refine LH.take 5 (by kernel_rfl) rfl (by kernel_rfl) (by kernel_rfl) (by kernel_rfl) (fun Hq hq => Y.move rfl rfl) (Wd.u rfl) rfl rfl hqs ?_
                refine LH.take 6 (by kernel_rfl) rfl (by kernel_rfl) (by kernel_rfl) (by kernel_rfl) (fun Hq hq => Y.move rfl rfl) (Wd.u rfl) rfl rfl hqs ?_
                refine LH.take 7 (by kernel_rfl) rfl (by kernel_rfl) (by kernel_rfl) (by kernel_rfl) (fun Hq hq => Y.owAddr (oB.nw hq) (k) rfl Try.runUnderlying28 Try.sizeOf30 rfl rfl (by first | rfl | omega) (by omega)) (Wd.u rfl) rfl rfl hqs ?_
                refine LH.take 8 (by kernel_rfl) rfl (by kernel_rfl) (by kernel_rfl) (by kernel_rfl) (fun Hq hq => Y.cast (v2 := vA y) (Y.loadN ((oB.pt (j := k) (by omega)).nw hq) rfl Try.isAgg30 Try.sizeOf30 (fA_len _) rfl) (by rw [hy]; rfl)) (Wd.u rfl) rfl rfl hqs ?_
                refine LH.one (i := 9) (by kernel_rfl) ?_
                -- call (*selvage/selvageref11.Graph).Above
                refine LO.call rfl rfl Try.call22 rfl (Wd.u rfl) rfl rfl (rabv_ct gb nl nd F x y w0 _ hg (bf_hg.mono (by omega)) hnd) (fun v94 H94 r94 => ?_)
                obtain ⟨up94, e94, rfl, hT94, hup94, hs94⟩ := r94
                replace hg := hg.nw hs94
                replace or27 := or27.nw hs94
                replace or37 := or37.nw hs94
                replace or44 := or44.nw hs94
                replace oB := oB.nw hs94
                replace oo := oo.nw hs94
                replace hm0 := hm0.tr hs94
                replace hlm2 := hlm2.tr hs94
                replace hcm27 := hcm27.tr hs94
                replace hlm3 := hlm3.tr hs94
                have hz15 := hs94.size
                have he94 : e94 = 0 := tld_sub hT94 hT27 (fun q ⟨z, hz, hu⟩ => by
                  have hzb : z ∈ both := by
                    simp only [List.mem_cons, List.not_mem_nil, or_false] at hz
                    rcases hz with rfl | rfl
                    · rw [hx]; exact List.getElem_mem _
                    · rw [hy]; exact List.getElem_mem _
                  exact ⟨a, by simp, UpO.trans ((hbm z).1 hzb).1 hu⟩)
                have hq94 := hqs.tr hs94
                refine ⟨.inr hq94, LH.narrow (SH2 := fun Hq => Nw H94 Hq) (fun Hq hq => hq94.tr hq) ?_⟩
                have hqn94 := Nw.refl H94
                refine LH.take 10 (by kernel_rfl) rfl (by kernel_rfl) (by kernel_rfl) (by kernel_rfl) (fun Hq hq => Y.move rfl rfl) (Wd.u rfl) rfl rfl hqn94 ?_
                refine LH.take 11 (by kernel_rfl) rfl (by kernel_rfl) (by kernel_rfl) (by kernel_rfl) (fun Hq hq => Y.cast (v2 := .bool up94) (Y.extract rfl rfl rfl) (rfl)) (Wd.u rfl) rfl rfl hqn94 ?_
                refine LH.take 12 (by kernel_rfl) rfl (by kernel_rfl) (by kernel_rfl) (by kernel_rfl) (fun Hq hq => Y.cast (v2 := .int .i64 (e94 : Int)) (Y.extract rfl rfl rfl) (rfl)) (Wd.u rfl) rfl rfl hqn94 ?_
                refine LH.take 13 (by kernel_rfl) rfl (by kernel_rfl) (by kernel_rfl) (by kernel_rfl) (fun Hq hq => Y.assign rfl rfl) (Wd.u rfl) rfl rfl hqn94 ?_
                refine LH.take 14 (by kernel_rfl) rfl (by kernel_rfl) (by kernel_rfl) (by kernel_rfl) (fun Hq hq => Y.assign rfl rfl) (Wd.u rfl) rfl rfl hqn94 ?_
                refine LH.done (by kernel_rfl) ?_
                have hqe := hqn94
                refine hK36 _ _ ?_
                refine CW.region ?_
                refine LR.v (Y.move rfl rfl) (Wd.u rfl) rfl rfl ?_
                refine LR.v (Y.not rfl rfl) (Wd.u rfl) rfl rfl ?_
                refine LR.v (Y.assign rfl rfl) (Wd.u rfl) rfl rfl ?_
                refine LR.nil ?_
                refine hK34 _ _ ?_
                refine hK33 _ _ ?_
                refine CW.region ?_
                refine LR.v (Y.move rfl rfl) (Wd.u rfl) rfl rfl ?_
                refine LR.v (Y.addi rfl rfl rfl (by omega)) (Wd.u rfl) rfl rfl ?_
                refine LR.v (Y.assign rfl rfl) (Wd.u rfl) rfl rfl ?_
                refine LR.nil ?_
                refine QN.sub (hN30 (k + 1, !up94) _ ?_ ?_) ⟨rfl, rfl, rfl, (iv (by omega)), rfl, (iv (by omega)), trivial⟩
                · exact ⟨(by omega), by
                    have hu9 := hup94.1 he94
                    constructor
                    · intro h9 j hj hjk hji
                      by_cases h3 : j < k
                      · exact hb.1 c78 j hj h3 hji
                      · obtain rfl : j = k := by omega
                        rw [← hx, ← hy]
                        intro hq
                        rw [hu9.2 hq] at h9; cases h9
                    · intro h9
                      have := h9 k hkl (by omega) (by omega)
                      rw [← hx, ← hy] at this
                      cases hq : up94
                      · rfl
                      · exact absurd (hu9.1 hq) this, hlm3⟩
                · first | omega | (simp only; omega) | (simp; omega)
              ·
                refine CW.skip ?_
                refine hK34 _ _ ?_
                refine hK33 _ _ ?_
                refine CW.region ?_
                refine LR.v (Y.move rfl rfl) (Wd.u rfl) rfl rfl ?_
                refine LR.v (Y.addi rfl rfl rfl (by omega)) (Wd.u rfl) rfl rfl ?_
                refine LR.v (Y.assign rfl rfl) (Wd.u rfl) rfl rfl ?_
                refine LR.nil ?_
                refine QN.sub (hN30 (k + 1, bt) _ ?_ ?_) ⟨rfl, rfl, rfl, (iv (by omega)), rfl, (iv (by omega)), trivial⟩
                · exact ⟨(by omega), ⟨fun h9 j hj hjk hji => hb.1 h9 j hj (by omega) hji, fun h9 => hb.2 (fun j hj hjk hji => h9 j hj (by omega) hji)⟩, hlm3⟩
                · first | omega | (simp only; omega) | (simp; omega)
            ·
              refine CW.exit (hE31 (.exit 4) nofun _ _ (hE30 (.exit 4) nofun _ _ (hX29 _ _ ?_)))
              refine QN.sub (hK27 bt _ ?_) ⟨rfl, rfl, rfl, (iv (by omega)), rfl, trivial⟩
              exact ⟨by
                    rw [← bstK_iff hbr hil (Nat.le_refl _)]
                    exact ⟨fun h => (by rw [c78] at h; cases h), fun h => hb.2 (fun j hj _ hji => h j hj hj hji)⟩, hcm27⟩
          ·
            refine LR.gs rfl rfl rfl rfl rfl rfl ?_
            refine LR.v (Y.pick_f rfl rfl rfl) (Wd.u rfl) rfl rfl ?_
            refine LR.nil ?_
            refine hK32 _ _ ?_
            refine CW.cond_f rfl ?_
            refine CW.exit (hE31 (.exit 4) nofun _ _ (hE30 (.exit 4) nofun _ _ (hX29 _ _ ?_)))
            refine QN.sub (hK27 bt _ ?_) ⟨rfl, rfl, rfl, (iv (by omega)), rfl, trivial⟩
            exact ⟨by rw [← bstK_iff hbr hil (show both.length ≤ k by omega)]; exact hb, hcm27⟩
        ·
          intro bt Hcut4 hIcut4
          obtain ⟨hb2, hlmcut4⟩ := hIcut4
          replace hg := hg.nw hlmcut4
          replace or27 := or27.nw hlmcut4
          replace or37 := or37.nw hlmcut4
          replace or44 := or44.nw hlmcut4
          replace oB := oB.nw hlmcut4
          replace oo := oo.nw hlmcut4
          replace hm0 := hm0.tr hlmcut4
          replace hlm2 := hlm2.tr hlmcut4
          have hz16 := hlmcut4.size
          refine CW.seq (fun K37 hK37 hE37 => ?_)
          refine CW.region ?_
          refine LR.v (Y.move rfl rfl) (Wd.u rfl) rfl rfl ?_
          refine LR.nil ?_
          refine hK37 _ _ ?_
          refine CW.cond rfl (fun c99 => ?_) (fun c99 => ?_)
          ·
            refine CW.region ?_
            refine LR.v (Y.move rfl rfl) (Wd.u rfl) rfl rfl ?_
            refine LR.v (Y.move rfl rfl) (Wd.u rfl) rfl rfl ?_
            refine LR.v (Y.move rfl rfl) (Wd.u rfl) rfl rfl ?_
            refine LR.v (Y.owAddr oB (i2) rfl Try.runUnderlying28 Try.sizeOf30 rfl rfl (by first | rfl | omega) (by omega)) (Wd.u rfl) rfl rfl ?_
            refine LR.v (Y.cast (v2 := vA x) (Y.loadN (oB.pt (j := i2) (by omega)) rfl Try.isAgg30 Try.sizeOf30 (fA_len _) rfl) (by rw [hx]; rfl)) (Wd.u rfl) rfl rfl ?_
            refine LR.z (Z.litw _ ([x]) rfl inf28 rfl rfl rfl (by decide) (by decide) fA_len fA_one (rfl)) (Wd.u rfl) rfl rfl (fun v105 H105 r105 => ?_)
            obtain ⟨ow105, hs105, ob105, hH105⟩ := r105
            have hzs105 : H105.size = Hcut4.size + 1 := by rw [hH105]; simp
            have df64 := (DF.new (bf_hg.mono hm0.size) : DF _ (Hcut4.size + 1))
            have dj65 : Dj k27 (Hcut4.size + 1) := Dj.new or27.le
            have dj66 : Dj k37 (Hcut4.size + 1) := Dj.new or37.le
            have dj67 : Dj k44 (Hcut4.size + 1) := Dj.new or44.le
            have dj68 : Dj kB (Hcut4.size + 1) := Dj.new oB.le
            have dj69 : Dj ko (Hcut4.size + 1) := Dj.new oo.le
            have nx70 : Nx 0 H0.size (Hcut4.size + 1) := Nx.new hm0.size
            have nx71 : Nx 0 HL1.size (Hcut4.size + 1) := Nx.new hlm2.size
            replace hg := hg.nw hs105
            replace or27 := or27.nw hs105
            replace or37 := or37.nw hs105
            replace or44 := or44.nw hs105
            replace oB := oB.nw hs105
            replace oo := oo.nw hs105
            replace hm0 := hm0.tr hs105
            replace hlm2 := hlm2.tr hs105
            have hz17 := hs105.size
            refine LR.z (Z.apnd oo ow105.rd rfl inf28 rfl rfl (by rw [List.length_singleton]; omega) (by rw [List.length_singleton]; omega)) (Wd.u rfl) rfl rfl (fun v106 H106 r106 => ?_)
            obtain ⟨k106, oo, hk106, hs106⟩ := r106
            replace hk106 : Nx ko H105.size k106 := hk106
            replace hs106 := hs106.md
            have df72 := DF.app (df57) (bf_hg.mono hm0.size) hk106
            have dj73 : Dj k27 k106 := Dj.app (dj58) or27.le hk106
            have dj74 : Dj k37 k106 := Dj.app (dj59) or37.le hk106
            have dj75 : Dj k44 k106 := Dj.app (dj60) or44.le hk106
            have dj76 : Dj kB k106 := Dj.app (dj61) oB.le hk106
            have dj77 : Dj (Hcut4.size + 1) k106 := Dj.app (dj69.symm) ow105.le hk106
            have nx78 : Nx 0 H0.size k106 := Nx.tr (nx62) hk106 hm0.size
            have nx79 : Nx 0 HL1.size k106 := Nx.tr (nx63) hk106 hlm2.size
            replace hg := hg.upL hs106 (DFL.cons df57 DFL.nil)
            replace or27 := or27.upL hs106 (DL.cons dj58 DL.nil)
            replace or37 := or37.upL hs106 (DL.cons dj59 DL.nil)
            replace or44 := or44.upL hs106 (DL.cons dj60 DL.nil)
            replace oB := oB.upL hs106 (DL.cons dj61 DL.nil)
            replace ow105 := ow105.upL hs106 (DL.cons dj69.symm DL.nil)
            replace hm0 := (Mo.trL (ks := []) (hm0.mdn []) hs106 (MIL.cons (MI.app MI.z (nx62) (Nat.le_refl _)) MIL.nil)).nil
            replace hlm2 := (Mo.trL (ks := []) (hlm2.mdn []) hs106 (MIL.cons (MI.app MI.z (nx63) (Nat.le_refl _)) MIL.nil)).nil
            have hz18 := hs106.size
            have hle_oo := oo.le
            refine LR.v (Y.assign rfl rfl) (Wd.u rfl) rfl rfl ?_
            refine LR.nil ?_
            refine hK25 _ _ ?_
            refine hK24 _ _ ?_
            refine CW.region ?_
            refine LR.v (Y.move rfl rfl) (Wd.u rfl) rfl rfl ?_
            refine LR.v (Y.addi rfl rfl rfl (by omega)) (Wd.u rfl) rfl rfl ?_
            refine LR.v (Y.assign rfl rfl) (Wd.u rfl) rfl rfl ?_
            refine LR.nil ?_
            refine QN.sub (hN21 (i2 + 1, v106, k106) _ ?_ ?_) ⟨rfl, rfl, rfl, (iv (by omega)), trivial⟩
            · exact ⟨(by omega), by rw [filt_take hil, if_pos (hb2.1 c99), ← hx]; exact oo, nx79, hlm2⟩
            · first | omega | (simp only; omega) | (simp; omega)
          ·
            refine CW.skip ?_
            refine hK25 _ _ ?_
            refine hK24 _ _ ?_
            refine CW.region ?_
            refine LR.v (Y.move rfl rfl) (Wd.u rfl) rfl rfl ?_
            refine LR.v (Y.addi rfl rfl rfl (by omega)) (Wd.u rfl) rfl rfl ?_
            refine LR.v (Y.assign rfl rfl) (Wd.u rfl) rfl rfl ?_
            refine LR.nil ?_
            refine QN.sub (hN21 (i2 + 1, vo, ko) _ ?_ ?_) ⟨rfl, rfl, rfl, (iv (by omega)), trivial⟩
            · exact ⟨(by omega), by rw [filt_take hil, if_neg (fun h => absurd (hb2.2 h) (by rw [c99]; simp)), List.append_nil]; exact oo, nx63, hlm2⟩
            · first | omega | (simp only; omega) | (simp; omega)
      ·
        rw [List.take_of_length_le (show both.length ≤ i2 by omega)] at oo
        have hbb := bst_best hbm
        have hrf : Ris (both.filter (bst (paR nd) both)) := List.Pairwise.filter _ hbr
        obtain ⟨s9, hs9⟩ : ∃ s : SV, vo = s.v := ⟨toSV vo, oo.sv.symm⟩
        refine CW.exit (hE22 (.exit 2) nofun _ _ (hE21 (.exit 2) nofun _ _ (hX20 _ _ ?_)))
        refine hK18 _ _ ?_
        refine CW.seq (fun K38 hK38 hE38 => ?_)
        refine CW.seq (fun K39 hK39 hE39 => ?_)
        refine CW.region ?_
        refine LR.v (Y.move rfl rfl) (Wd.u rfl) rfl rfl ?_
        refine LR.v (Y.len oo.rd rfl Try.runUnderlying28 rfl) (Wd.u rfl) rfl rfl ?_
        refine LR.v (Y.gtr rfl rfl rfl) (Wd.u rfl) rfl rfl ?_
        refine LR.nil ?_
        refine hK39 _ _ ?_
        refine CW.condp rfl (fun c109 => ?_) (fun c109 => ?_)
        ·
          refine CW.seq (fun K40 hK40 hE40 => ?_)
          refine CW.region ?_
          refine LR.v (Y.assign rfl rfl) (Wd.u rfl) rfl rfl ?_
          refine LR.v (Y.assign rfl rfl) (Wd.u rfl) rfl rfl ?_
          refine LR.nil ?_
          refine hK40 _ _ ?_
          refine CW.ret (hE38 .ret nofun _ _ (hret .ret (.inr rfl) _ _ _ (res2 rfl rfl rfl) ?_))
          exact ⟨⟨none, 0, 0⟩, 0, [], 4, rfl, Ow.nil fA_len fA_one, Nx.refl _ _, .inr (.inl ⟨rfl, rfl, hT27, _, ris_nodup hrf, by omega, hbb⟩), hm0⟩
        ·
          refine CW.skip ?_
          refine hK38 _ _ ?_
          refine CW.seq (fun K41 hK41 hE41 => ?_)
          refine CW.region ?_
          refine LR.v (Y.move rfl rfl) (Wd.u rfl) rfl rfl ?_
          refine LR.v (Y.assign rfl rfl) (Wd.u rfl) rfl rfl ?_
          refine LR.v (Y.assign rfl rfl) (Wd.u rfl) rfl rfl ?_
          refine LR.nil ?_
          refine hK41 _ _ ?_
          refine CW.ret (hret .ret (.inr rfl) _ _ _ (res2 rfl rfl rfl) ?_)
          exact ⟨s9, ko, _, 0, by rw [hs9]; rfl, by rw [← hs9]; exact oo, nx62, .inl ⟨rfl, hT27, hrf, by omega, hbb⟩, hm0⟩

end Go.Proofs.Ytepdhokpfecdnaa.GraZC
/-
  Rows of places as the document's graph.
-/
namespace Go.Proofs.Ytepdhokpfecdnaa.GraZD
open Go.Proofs.Ytepdhokpfecdnaa.E Go.RowKit Go.Proofs.Ytepdhokpfecdnaa.GraA Go.Proofs.Ytepdhokpfecdnaa.GraB Go.Proofs.Ytepdhokpfecdnaa.GraC Go.Proofs.Ytepdhokpfecdnaa.GraD Go.Proofs.Ytepdhokpfecdnaa.GraE Go.Proofs.Ytepdhokpfecdnaa.GraF Go.Proofs.Ytepdhokpfecdnaa.GraG Go.Proofs.Ytepdhokpfecdnaa.GraH Go.Proofs.Ytepdhokpfecdnaa.GraI Go.Proofs.Ytepdhokpfecdnaa.GraJ Go.Proofs.Ytepdhokpfecdnaa.GraK Go.Proofs.Ytepdhokpfecdnaa.GraL Go.Proofs.Ytepdhokpfecdnaa.GraM Go.Proofs.Ytepdhokpfecdnaa.GraN Go.Proofs.Ytepdhokpfecdnaa.GraO Go.Proofs.Ytepdhokpfecdnaa.GraP Go.Proofs.Ytepdhokpfecdnaa.GraX Go.Proofs.Ytepdhokpfecdnaa.GraY Go.Proofs.Ytepdhokpfecdnaa.GraZ Go.Proofs.Ytepdhokpfecdnaa.GraZA Go.Proofs.Ytepdhokpfecdnaa.GraZB Go.Proofs.Ytepdhokpfecdnaa.GraZC
set_option maxRecDepth 20000
set_option linter.unusedVariables false
set_option linter.unusedSimpArgs false
set_option linter.unusedSectionVars false
set_option maxRecDepth 100000 in
theorem inf28 : Inf Try.prog 28 30 32 32 := ⟨Try.underlying28, _, _, rfl, rfl, rfl, rfl, rfl⟩
set_option maxRecDepth 100000 in
theorem inf83 : Inf Try.prog 83 87 33 56 := ⟨Try.underlying83, _, _, rfl, rfl, rfl, rfl, rfl⟩
section
variable {P : Program} {w0 : World} {n : Nat} {l : FL} {H H1 : Heap} {o : Oper}
end
theorem l32 : ∀ {k : List UInt8}, k.length = 32 → ∃ b0 b1 b2 b3 b4 b5 b6 b7 b8 b9 b10 b11 b12 b13 b14 b15 b16 b17 b18 b19 b20 b21 b22 b23 b24 b25 b26 b27 b28 b29 b30 b31 : UInt8, k = [b0, b1, b2, b3, b4, b5, b6, b7, b8, b9, b10, b11, b12, b13, b14, b15, b16, b17, b18, b19, b20, b21, b22, b23, b24, b25, b26, b27, b28, b29, b30, b31] := by
  intro k h
  match k, h with
  | [b0, b1, b2, b3, b4, b5, b6, b7, b8, b9, b10, b11, b12, b13, b14, b15, b16, b17, b18, b19, b20, b21, b22, b23, b24, b25, b26, b27, b28, b29, b30, b31], _ => exact ⟨b0, b1, b2, b3, b4, b5, b6, b7, b8, b9, b10, b11, b12, b13, b14, b15, b16, b17, b18, b19, b20, b21, b22, b23, b24, b25, b26, b27, b28, b29, b30, b31, rfl⟩

abbrev n0 : SV := ⟨none, 0, 0⟩
theorem build_nd (i : Ide) (w : World) : (Instr.build 87 #[(0, vA i)]).run Try.prog w = .ok (.agg (fNd ⟨i, n0, []⟩).toArray) w := by
  obtain ⟨k, hk⟩ := i
  obtain ⟨b0, b1, b2, b3, b4, b5, b6, b7, b8, b9, b10, b11, b12, b13, b14, b15, b16, b17, b18, b19, b20, b21, b22, b23, b24, b25, b26, b27, b28, b29, b30, b31, rfl⟩ := l32 hk
  kernel_rfl
theorem fNd_set (i : Ide) (s t : SV) (p q : List Ide) : (fNd ⟨i, s, p⟩).set 32 t.v = fNd ⟨i, t, q⟩ := by
  show (fA i ++ [s.v]).set 32 t.v = fA i ++ [t.v]
  rw [List.set_append_right _ _ (by rw [fA_len]; exact Nat.le_refl _), fA_len]; rfl
theorem _root_.Go.Proofs.Ytepdhokpfecdnaa.E.Var.ndp {e : TypeId} {H : Heap} {b : Nat} {x : Nd} (h : Var e H b (fNd x)) : Pt H ⟨b, 32, none⟩ [x.v.v] := by
  have := fNd_pt h.pt
  simpa [add_eq] using this
theorem fNd_splice (a : List Value) (x : Nd) (h : a.length = 33) : splice a 0 (fNd x) = fNd x := splice_all2 (h.trans (fNd_len x).symm)
/-- what a graph tells, commit by commit -/
def ndL (nd : List Nd) : List (Ide × List Ide) := nd.map (fun y => (y.i, y.ps))
def toL (g : List (List Nat)) (n : Nat) : List (Ide × List Ide) := (List.range n).map (fun m => (idn m, (g.getD m []).map idn))
theorem toL_succ (g : List (List Nat)) (n : Nat) : toL g (n + 1) = toL g n ++ [(idn n, (g.getD n []).map idn)] := by unfold toL; rw [List.range_succ, List.map_append]; rfl
theorem find_ndL (nd : List Nd) (i : Ide) : paR nd i = ((ndL nd).find? (fun z => decide (z.1 = i))).map (·.2) := by
  unfold paR ndL
  rw [List.find?_map, Option.map_map]; rfl
theorem paR_paL {nd : List Nd} {g : List (List Nat)} (h : ndL nd = toL g g.length) : paR nd = paL g := by
  funext i
  rw [find_ndL, h]
  unfold toL paL
  rw [List.find?_map, Option.map_map]; rfl

set_option maxHeartbeats 4000000 in
theorem told_ct (v : SV) (l : List Rw) (F : Nat → Prop) (w0 : World) (H0 : Heap)
    (hl : Rd F H0 fRw 1 v.v l) (hx : ∀ x ∈ l, Rd F H0 fN 1 x.v.v x.l) (bf_hl : BF F H0.size) (bf_hx : BF F H0.size) (hok : RwOk l) :
    Ct Try.prog w0 21 #[v.v] H0 (fun r H2 => ∃ gb : Nat, ∃ nl : SV, ∃ nd : List Nd, r = .pointer (some ⟨gb, 0, none⟩) ∧ (GrR (fun b => H0.size ≤ b) H2 gb nl nd) ∧ (NdOk nd) ∧ (ndL nd = toL (l.map (·.l)) (l.map (·.l)).length) ∧ Nw H0 H2) := by
  refine Ct.enter (args := [v.v]) Try.func21 rfl rfl rfl ?_
  intro Q0 hret
  have hm0 : Nw H0 H0 := Mo.refl _ _
  have hll := hok.le
  refine CW.seq (fun K1 hK1 hE1 => ?_)
  refine CW.region ?_
  refine LR.v (Y.assign rfl rfl) (Wd.u rfl) rfl rfl ?_
  refine LR.nil ?_
  refine hK1 _ _ ?_
  refine CW.seq (fun K2 hK2 hE2 => ?_)
  refine CW.region ?_
  refine LR.v (Y.build (v := .agg #[n0.v]) rfl rfl (by intro w; kernel_rfl)) (Wd.u rfl) rfl rfl ?_
  refine LR.z (Z.boxv rfl rfl) (Wd.u rfl) rfl rfl (fun v8 H8 r8 => ?_)
  obtain ⟨rfl, vg, hs8, ob8, hH8⟩ := r8
  have hzs8 : H8.size = H0.size + 1 := by rw [hH8]; simp
  have df1 := (DF.new (bf_hl.mono hm0.size) : DF _ (H0.size + 1))
  have df2 := (DF.new (bf_hx.mono hm0.size) : DF _ (H0.size + 1))
  have nx3 : Nx 0 H0.size (H0.size + 1) := Nx.new hm0.size
  replace hl := hl.nw hs8
  replace hx := fun x h_ => (hx x h_).nw hs8
  replace hm0 := hm0.tr hs8
  have hz1 := hs8.size
  replace vg : Var 85 H8 H0.size ([n0.v]) := vg
  refine LR.v (Y.assign rfl rfl) (Wd.u rfl) rfl rfl ?_
  refine LR.nil ?_
  refine hK2 _ _ ?_
  refine CW.seq (fun K3 hK3 hE3 => ?_)
  refine CW.seq (fun K4 hK4 hE4 => ?_)
  refine CW.region ?_
  refine LR.v (Y.assign rfl rfl) (Wd.u rfl) rfl rfl ?_
  refine LR.nil ?_
  refine hK4 _ _ ?_
  refine CW.block (fun K5 hK5 hX5 hE5 => ?_)
  refine CW.loop (fun (s_ : (Nat) × (SV) × (Nat) × (List Nd) × (Nat → Prop)) => match s_ with | (n, on, kn, nd, G) => [(0, v.v), (3, .pointer (some ⟨H0.size, 0, none⟩)), (4, .int .i64 (n : Int))])
    (fun (s_ : (Nat) × (SV) × (Nat) × (List Nd) × (Nat → Prop)) (H : Heap) => match s_ with | (n, on, kn, nd, G) => (Var 85 H H0.size [on.v]) ∧ (Ow kn 87 H fNd 33 on.v nd) ∧ (∀ y ∈ nd, Rd G H fA 32 y.v.v y.ps) ∧ (BF G H.size) ∧ (DF G kn) ∧ (DF G (H0.size + 1)) ∧ (∀ b, G b → H0.size ≤ b) ∧ (ndL nd = toL (l.map (·.l)) n) ∧ (∀ y ∈ nd, y.ps.length ≤ 4) ∧ (n ≤ l.length) ∧ (nd.length = n) ∧ (Nx 0 H8.size kn) ∧ (Dj (H0.size + 1) kn) ∧ Mo (Ms [(H0.size + 1)]) H8 H)
    (fun (s_ : (Nat) × (SV) × (Nat) × (List Nd) × (Nat → Prop)) => match s_ with | (n, on, kn, nd, G) => l.length - n) (0, n0, 0, [], fun _ => False) ⟨rfl, rfl, rfl, trivial⟩ ?_ ?_
  ·
    exact ⟨vg, Ow.nil fNd_len fNd_one, (fun x h => by cases h), (fun b e => e.elim), (fun b e => e.elim), (fun b e => e.elim), (fun b e => e.elim), rfl, (fun y h => by cases h), (by omega), rfl, Nx.refl _ _, Dj.z, Mo.refl _ _⟩
  rintro ⟨n, on, kn, nd, G⟩ HL1 hI1 K6 hN6 hE6
  obtain ⟨vg, how, hxp, bf_hxp, fg, fv, hG, hnl, hnp, hn, hndl, nxl_how, dj_vg_how, hlm1⟩ := hI1
  have df4 := DF.app (DF.z) (bf_hl.mono hm0.size) nxl_how
  have df5 := DF.app (DF.z) (bf_hx.mono hm0.size) nxl_how
  have nx6 : Nx 0 H0.size kn := Nx.tr (Nx.refl 0 _) nxl_how hm0.size
  replace hl := hl.upL hlm1 (DFL.cons df1 DFL.nil)
  replace hx := fun x h_ => (hx x h_).upL hlm1 (DFL.cons df2 DFL.nil)
  replace hm0 := (Mo.trL (ks := []) (hm0.mdn []) hlm1 (MIL.cons (MI.app MI.z (nx3) (Nat.le_refl _)) MIL.nil)).nil
  have hz2 := hlm1.size
  have hle_how := how.le
  have dj7 := dj_vg_how
  have nx_hlm1_vg := Nx.refl (H0.size + 1) H8.size
  have nx8 := nxl_how
  refine CW.seq (fun K7 hK7 hE7 => ?_)
  refine CW.seq (fun K8 hK8 hE8 => ?_)
  refine CW.region ?_
  refine LR.v (Y.move rfl rfl) (Wd.u rfl) rfl rfl ?_
  refine LR.v (Y.move rfl rfl) (Wd.u rfl) rfl rfl ?_
  refine LR.v (Y.len hl rfl Try.runUnderlying22 rfl) (Wd.u rfl) rfl rfl ?_
  refine LR.v (Y.lss rfl rfl rfl) (Wd.u rfl) rfl rfl ?_
  refine LR.nil ?_
  refine hK8 _ _ ?_
  refine CW.condp rfl (fun c12 => ?_) (fun c12 => ?_)
  ·
    have hnl9 : n < l.length := by omega
    have hat := hok.at_ n hnl9
    have hgn : (l.map (·.l)).getD n [] = l[n].l := by simp [List.getD_eq_getElem?_getD, List.getElem?_eq_getElem hnl9]
    refine CW.skip ?_
    refine hK7 _ _ ?_
    refine CW.seq (fun K9 hK9 hE9 => ?_)
    refine CW.block (fun K10 hK10 hX10 hE10 => ?_)
    refine CW.seq (fun K11 hK11 hE11 => ?_)
    refine CW.region ?_
    refine LR.v (Y.move rfl rfl) (Wd.u rfl) rfl rfl ?_
    -- call selvage/selvagelaw11.Id
    refine LR.call rfl Try.call12 rfl (Wd.u rfl) rfl rfl (idn_ct n w0 _ (by omega)) (fun v16 H16 r16 => ?_)
    obtain ⟨rfl, hs16⟩ := r16
    replace hl := hl.nw hs16
    replace hx := fun x h_ => (hx x h_).nw hs16
    replace vg := vg.nw hs16
    replace how := how.nw hs16
    replace hxp := fun y h_ => (hxp y h_).nw hs16
    replace hm0 := hm0.tr hs16
    replace hlm1 := hlm1.trN hs16
    have hz3 := hs16.size
    refine LR.v (Y.build (v := .agg (fNd ⟨idn n, n0, []⟩).toArray) rfl rfl (by intro w; exact build_nd (idn n) _)) (Wd.u rfl) rfl rfl ?_
    refine LR.z (Z.allocv rfl Try.zeroValue87) (Wd.u rfl) rfl rfl (fun v5 H5 r5 => ?_)
    obtain ⟨rfl, vx, hs5, ob5, hH5⟩ := r5
    have hzs5 : H5.size = H16.size + 1 := by rw [hH5]; simp
    have df9 := (DF.new (bf_hl.mono hm0.size) : DF _ (H16.size + 1))
    have df10 := (DF.new (bf_hx.mono hm0.size) : DF _ (H16.size + 1))
    have dj11 : Dj (H0.size + 1) (H16.size + 1) := Dj.new vg.lt
    have dj12 : Dj kn (H16.size + 1) := Dj.new how.le
    have df13 := (DF.new (bf_hxp.mono (by omega)) : DF _ (H16.size + 1))
    have nx14 : Nx 0 H0.size (H16.size + 1) := Nx.new hm0.size
    have nx15 : Nx 0 H8.size (H16.size + 1) := Nx.new hlm1.size
    replace hl := hl.nw hs5
    replace hx := fun x h_ => (hx x h_).nw hs5
    replace vg := vg.nw hs5
    replace how := how.nw hs5
    replace hxp := fun y h_ => (hxp y h_).nw hs5
    replace hm0 := hm0.tr hs5
    replace hlm1 := hlm1.trN hs5
    have hz4 := hs5.size
    replace vx : Var 87 H5 H16.size (fNd ⟨Zid, n0, []⟩) := vx
    refine LR.s (S.var vx (_) (fNd ⟨idn n, n0, []⟩) rfl rfl rfl rfl (fNd_one _) Try.sizeOf87 (fNd_len _) (by first | decide | simp [fA_len]) ((fNd_splice _ _ (fNd_len _)))) (Wd.u rfl) rfl (fun H5_4 r5_4 => ?_)
    obtain ⟨vx, hs5_4⟩ := r5_4
    replace hs5_4 := hs5_4.md1
    replace hl := hl.upL hs5_4 (DFL.cons df9 DFL.nil)
    replace hx := fun x h_ => (hx x h_).upL hs5_4 (DFL.cons df10 DFL.nil)
    replace vg := vg.upL hs5_4 (DL.cons dj11 DL.nil)
    replace how := how.upL hs5_4 (DL.cons dj12 DL.nil)
    replace hxp := fun y h_ => (hxp y h_).upL hs5_4 (DFL.cons df13 DFL.nil)
    replace hm0 := (Mo.trL (ks := []) (hm0.mdn []) hs5_4 (MIL.cons (MI.app MI.z (nx14) (Nat.le_refl _)) MIL.nil)).nil
    replace hlm1 := hlm1.trL hs5_4 (MIL.cons (MI.app MI.z (nx15) (Nat.le_refl _)) MIL.nil)
    have hz5 := hs5_4.size
    refine LR.nil ?_
    refine hK11 _ _ ?_
    refine CW.seq (fun K12 hK12 hE12 => ?_)
    refine CW.seq (fun K13 hK13 hE13 => ?_)
    refine CW.region ?_
    refine LR.v (Y.assign rfl rfl) (Wd.u rfl) rfl rfl ?_
    refine LR.nil ?_
    refine hK13 _ _ ?_
    refine CW.block (fun K14 hK14 hX14 hE14 => ?_)
    refine CW.loop (fun (s_ : (Nat) × (SV) × (Nat)) => match s_ with | (k, sp, kp) => [(0, v.v), (3, .pointer (some ⟨H0.size, 0, none⟩)), (4, .int .i64 (n : Int)), (5, .pointer (some ⟨H16.size, 0, none⟩)), (6, .int .i64 (k : Int))])
      (fun (s_ : (Nat) × (SV) × (Nat)) (H : Heap) => match s_ with | (k, sp, kp) => (Var 87 H H16.size (fNd ⟨idn n, sp, []⟩)) ∧ (Ow kp 30 H fA 32 sp.v ((l[n].l.take k).map idn)) ∧ (k ≤ l[n].l.length) ∧ (Nx 0 H5_4.size kp) ∧ (Dj (H16.size + 1) kp) ∧ Mo (Ms [(H16.size + 1)]) H5_4 H)
      (fun (s_ : (Nat) × (SV) × (Nat)) => match s_ with | (k, sp, kp) => l[n].l.length - k) (0, n0, 0) ⟨rfl, rfl, rfl, rfl, rfl, trivial⟩ ?_ ?_
    ·
      exact ⟨vx, Ow.nil fA_len fA_one, (by omega), Nx.refl _ _, Dj.z, Mo.refl _ _⟩
    rintro ⟨k, sp, kp⟩ HL2 hI2 K15 hN15 hE15
    obtain ⟨vx, op, hk, nxl_op, dj_vx_op, hlm2⟩ := hI2
    have df16 := DF.app (DF.z) (bf_hl.mono hm0.size) nxl_op
    have df17 := DF.app (DF.z) (bf_hx.mono hm0.size) nxl_op
    have dj18 : Dj (H0.size + 1) kp := Dj.app (Dj.z) vg.lt nxl_op
    have dj19 : Dj kn kp := Dj.app (Dj.z) how.le nxl_op
    have df20 := DF.app (DF.z) (bf_hxp.mono (by omega)) nxl_op
    have nx21 : Nx 0 H0.size kp := Nx.tr (Nx.refl 0 _) nxl_op hm0.size
    have nx22 : Nx 0 H8.size kp := Nx.tr (Nx.refl 0 _) nxl_op hlm1.size
    replace hl := hl.upL hlm2 (DFL.cons df9 DFL.nil)
    replace hx := fun x h_ => (hx x h_).upL hlm2 (DFL.cons df10 DFL.nil)
    replace vg := vg.upL hlm2 (DL.cons dj11 DL.nil)
    replace how := how.upL hlm2 (DL.cons dj12 DL.nil)
    replace hxp := fun y h_ => (hxp y h_).upL hlm2 (DFL.cons df13 DFL.nil)
    replace hm0 := (Mo.trL (ks := []) (hm0.mdn []) hlm2 (MIL.cons (MI.app MI.z (nx14) (Nat.le_refl _)) MIL.nil)).nil
    replace hlm1 := hlm1.trL hlm2 (MIL.cons (MI.app MI.z (nx15) (Nat.le_refl _)) MIL.nil)
    have hz6 := hlm2.size
    have hle_op := op.le
    have dj23 := dj_vx_op
    have nx_hlm2_vx := Nx.refl (H16.size + 1) H5_4.size
    have nx24 := nxl_op
    refine CW.seq (fun K16 hK16 hE16 => ?_)
    refine CW.seq (fun K17 hK17 hE17 => ?_)
    refine CW.region ?_
    refine LR.v (Y.move rfl rfl) (Wd.u rfl) rfl rfl ?_
    refine LR.v (Y.move rfl rfl) (Wd.u rfl) rfl rfl ?_
    refine LR.v (Y.move rfl rfl) (Wd.u rfl) rfl rfl ?_
    refine LR.e (g := fun ad => .pointer (some ad)) (Y.indexAddrF hl (n) rfl Try.runUnderlying22 Try.sizeOf38 rfl rfl (by first | rfl | omega) (by omega)) (Wd.u rfl) rfl rfl (fun ad21 pt21 => ?_)
    have bf_pt21 := bf_hl
    refine LR.v (Y.load1 pt21.pt rfl Try.isAgg38 rfl) (Wd.u rfl) rfl rfl ?_
    refine LR.v (Y.len (hx _ (List.getElem_mem (by omega : n < l.length))) rfl Try.runUnderlying38 rfl) (Wd.u rfl) rfl rfl ?_
    refine LR.v (Y.lss rfl rfl rfl) (Wd.u rfl) rfl rfl ?_
    refine LR.nil ?_
    refine hK17 _ _ ?_
    refine CW.condp rfl (fun c24 => ?_) (fun c24 => ?_)
    ·
      refine CW.skip ?_
      refine hK16 _ _ ?_
      refine CW.seq (fun K18 hK18 hE18 => ?_)
      refine CW.block (fun K19 hK19 hX19 hE19 => ?_)
      refine CW.region_any (fun Hq => Mo (Ms [kp]) HL2 Hq) [13] rfl ?_
      have hq9 : Mo (Ms [kp]) HL2 HL2 := Mo.refl _ _
      have nx25 := Nx.refl kp HL2.size
      refine LH.take 0 (by kernel_rfl) rfl (by kernel_rfl) (by kernel_rfl) (by kernel_rfl) (fun Hq hq => Y.fieldAddr (vx.upL hq (DL.cons dj23 DL.nil)).pt rfl Try.runUnderlying87 rfl rfl Try.sizeOf28 (by decide) rfl) (Wd.u rfl) rfl rfl hq9 ?_
      refine LH.take 1 (by kernel_rfl) rfl (by kernel_rfl) (by kernel_rfl) (by kernel_rfl) (fun Hq hq => Y.load1 (vx.upL hq (DL.cons dj23 DL.nil)).ndp rfl Try.isAgg28 rfl) (Wd.u rfl) rfl rfl hq9 ?_
      refine LH.take 2 (by kernel_rfl) rfl (by kernel_rfl) (by kernel_rfl) (by kernel_rfl) (fun Hq hq => Y.move rfl rfl) (Wd.u rfl) rfl rfl hq9 ?_
      refine LH.take 3 (by kernel_rfl) rfl (by kernel_rfl) (by kernel_rfl) (by kernel_rfl) (fun Hq hq => Y.move rfl rfl) (Wd.u rfl) rfl rfl hq9 ?_
      refine LH.e (g := fun ad => .pointer (some ad)) 4 (by kernel_rfl) rfl (by kernel_rfl) (by kernel_rfl) (by kernel_rfl) (Y.indexAddrF hl (n) rfl Try.runUnderlying22 Try.sizeOf38 rfl rfl (by first | rfl | omega) (by omega)) (Wd.u rfl) rfl rfl hq9 (fun ad31 pt31 => ?_)
      have bf_pt31 := bf_hl
      refine LH.take 5 (by kernel_rfl) rfl (by kernel_rfl) (by kernel_rfl) (by kernel_rfl) (fun Hq hq => Y.load1 (pt31.upL hq (DFL.cons df16 DFL.nil)).pt rfl Try.isAgg38 rfl) (Wd.u rfl) rfl rfl hq9 ?_
      refine LH.take 6 (by kernel_rfl) rfl (by kernel_rfl) (by kernel_rfl) (by kernel_rfl) (fun Hq hq => Y.move rfl rfl) (Wd.u rfl) rfl rfl hq9 ?_
      refine LH.e (g := fun ad => .pointer (some ad)) 7 (by kernel_rfl) rfl (by kernel_rfl) (by kernel_rfl) (by kernel_rfl) (Y.indexAddrF (hx _ (List.getElem_mem (by omega : n < l.length))) (k) rfl Try.runUnderlying38 Try.sizeOf3 rfl rfl (by first | rfl | omega) (by omega)) (Wd.u rfl) rfl rfl hq9 (fun ad34 pt34 => ?_)
      have bf_pt34 := bf_hx
      refine LH.take 8 (by kernel_rfl) rfl (by kernel_rfl) (by kernel_rfl) (by kernel_rfl) (fun Hq hq => Y.load1 (pt34.upL hq (DFL.cons df17 DFL.nil)).pt rfl Try.isAgg3 rfl) (Wd.u rfl) rfl rfl hq9 ?_
      refine LH.one (i := 9) (by kernel_rfl) ?_
      have hkb := hat.2 _ (List.getElem_mem (show k < l[n].l.length by omega))
      -- call selvage/selvagelaw11.Id
      refine LO.call rfl rfl Try.call12 rfl (Wd.u rfl) rfl rfl (idn_ct _ w0 _ (by omega)) (fun v36 H36 r36 => ?_)
      obtain ⟨rfl, hs36⟩ := r36
      replace hl := hl.nw hs36
      replace hx := fun x h_ => (hx x h_).nw hs36
      replace vg := vg.nw hs36
      replace how := how.nw hs36
      replace hxp := fun y h_ => (hxp y h_).nw hs36
      replace vx := vx.nw hs36
      replace op := op.nw hs36
      replace pt31 := pt31.nw hs36
      replace pt34 := pt34.nw hs36
      replace hm0 := hm0.tr hs36
      replace hlm1 := hlm1.trN hs36
      replace hlm2 := hlm2.trN hs36
      replace hq9 := hq9.trN hs36
      have hz7 := hs36.size
      refine ⟨.inr hq9, LH.narrow (SH2 := fun Hq => Mo (Ms [kp]) H36 Hq) (fun Hq hq => hq9.trL hq (MIL.cons (MI.app (MI.root (by simp)) (nx25) (Nat.le_refl _)) MIL.nil)) ?_⟩
      have hq9 : Mo (Ms [kp]) H36 H36 := Mo.refl _ _
      have nx26 := Nx.refl kp H36.size
      refine LH.one (i := 10) (by kernel_rfl) ?_
      refine LO.z rfl (Z.litw _ ([idn l[n].l[k]]) rfl inf28 rfl rfl rfl (by decide) (by decide) fA_len fA_one (rfl)) (Wd.u rfl) rfl rfl (fun v37 H37 r37 => ?_)
      obtain ⟨ow37, hs37, ob37, hH37⟩ := r37
      have hzs37 : H37.size = H36.size + 1 := by rw [hH37]; simp
      have df27 := (DF.new (bf_hl.mono hm0.size) : DF _ (H36.size + 1))
      have df28 := (DF.new (bf_hx.mono hm0.size) : DF _ (H36.size + 1))
      have dj29 : Dj (H0.size + 1) (H36.size + 1) := Dj.new vg.lt
      have dj30 : Dj kn (H36.size + 1) := Dj.new how.le
      have df31 := (DF.new (bf_hxp.mono (by omega)) : DF _ (H36.size + 1))
      have dj32 : Dj (H16.size + 1) (H36.size + 1) := Dj.new vx.lt
      have dj33 : Dj kp (H36.size + 1) := Dj.new op.le
      have df34 := (DF.new (bf_pt31.mono hm0.size) : DF _ (H36.size + 1))
      have df35 := (DF.new (bf_pt34.mono hm0.size) : DF _ (H36.size + 1))
      have nx36 : Nx 0 H0.size (H36.size + 1) := Nx.new hm0.size
      have nx37 : Nx 0 H8.size (H36.size + 1) := Nx.new hlm1.size
      have nx38 : Nx 0 H5_4.size (H36.size + 1) := Nx.new hlm2.size
      have nx39 : Nx 0 H36.size (H36.size + 1) := Nx.new hq9.size
      replace hl := hl.nw hs37
      replace hx := fun x h_ => (hx x h_).nw hs37
      replace vg := vg.nw hs37
      replace how := how.nw hs37
      replace hxp := fun y h_ => (hxp y h_).nw hs37
      replace vx := vx.nw hs37
      replace op := op.nw hs37
      replace pt31 := pt31.nw hs37
      replace pt34 := pt34.nw hs37
      replace hm0 := hm0.tr hs37
      replace hlm1 := hlm1.trN hs37
      replace hlm2 := hlm2.trN hs37
      replace hq9 := hq9.trN hs37
      have hz8 := hs37.size
      refine ⟨.inr hq9, LH.narrow (SH2 := fun Hq => Mo (Ms [kp, (H36.size + 1)]) H37 Hq) (fun Hq hq => hq9.trL hq (MIL.cons (MI.app (MI.root (by simp)) (nx26) (Nat.le_refl _)) (MIL.cons (MI.app MI.z (nx39) (Nat.le_refl _)) MIL.nil))) ?_⟩
      have hq9 : Mo (Ms [kp, (H36.size + 1)]) H37 H37 := Mo.refl _ _
      have nx40 := Nx.refl kp H37.size
      have nx41 := Nx.refl (H36.size + 1) H37.size
      refine LH.one (i := 11) (by kernel_rfl) ?_
      refine LO.z rfl (Z.apnd op ow37.rd rfl inf28 rfl rfl (by simp; omega) (by simp; omega)) (Wd.u rfl) rfl rfl (fun v38 H38 r38 => ?_)
      obtain ⟨k38, op, hk38, hs38⟩ := r38
      replace hk38 : Nx kp H37.size k38 := hk38
      replace hs38 := hs38.md
      have df42 := DF.app (df16) (bf_hl.mono hm0.size) hk38
      have df43 := DF.app (df17) (bf_hx.mono hm0.size) hk38
      have dj44 : Dj (H0.size + 1) k38 := Dj.app (dj18) vg.lt hk38
      have dj45 : Dj kn k38 := Dj.app (dj19) how.le hk38
      have df46 := DF.app (df20) (bf_hxp.mono (by omega)) hk38
      have dj47 : Dj (H16.size + 1) k38 := Dj.app (dj23) vx.lt hk38
      have df48 := DF.app (df16) (bf_pt31.mono hm0.size) hk38
      have df49 := DF.app (df17) (bf_pt34.mono hm0.size) hk38
      have dj50 : Dj (H36.size + 1) k38 := Dj.app (dj33.symm) ow37.le hk38
      have nx51 : Nx 0 H0.size k38 := Nx.tr (nx21) hk38 hm0.size
      have nx52 : Nx 0 H8.size k38 := Nx.tr (nx22) hk38 hlm1.size
      have nx53 : Nx 0 H5_4.size k38 := Nx.tr (nx24) hk38 hlm2.size
      have nx54 : Nx kp H37.size k38 := Nx.tr (nx40) hk38 hq9.size
      replace hl := hl.upL hs38 (DFL.cons df16 DFL.nil)
      replace hx := fun x h_ => (hx x h_).upL hs38 (DFL.cons df17 DFL.nil)
      replace vg := vg.upL hs38 (DL.cons dj18 DL.nil)
      replace how := how.upL hs38 (DL.cons dj19 DL.nil)
      replace hxp := fun y h_ => (hxp y h_).upL hs38 (DFL.cons df20 DFL.nil)
      replace vx := vx.upL hs38 (DL.cons dj23 DL.nil)
      replace pt31 := pt31.upL hs38 (DFL.cons df16 DFL.nil)
      replace pt34 := pt34.upL hs38 (DFL.cons df17 DFL.nil)
      replace ow37 := ow37.upL hs38 (DL.cons dj33.symm DL.nil)
      replace hm0 := (Mo.trL (ks := []) (hm0.mdn []) hs38 (MIL.cons (MI.app MI.z (nx21) (Nat.le_refl _)) MIL.nil)).nil
      replace hlm1 := hlm1.trL hs38 (MIL.cons (MI.app MI.z (nx22) (Nat.le_refl _)) MIL.nil)
      replace hlm2 := hlm2.trL hs38 (MIL.cons (MI.app MI.z (nx24) (Nat.le_refl _)) MIL.nil)
      replace hq9 := hq9.trL hs38 (MIL.cons (MI.app (MI.root (by simp)) (nx40) (Nat.le_refl _)) MIL.nil)
      have hz9 := hs38.size
      have hle_op := op.le
      obtain ⟨s38, hs38v⟩ : ∃ s : SV, v38 = s.v := ⟨toSV v38, op.sv.symm⟩
      rw [hs38v] at op
      refine ⟨.inr hq9, LH.narrow (SH2 := fun Hq => Mo (Ms [k38, (H36.size + 1)]) H38 Hq) (fun Hq hq => hq9.trL hq (MIL.cons (MI.app (MI.root (by simp)) (nx54) (Nat.le_refl _)) (MIL.cons (MI.app (MI.root (by simp)) (nx41) (Nat.le_refl _)) MIL.nil))) ?_⟩
      have hq9 : Mo (Ms [k38, (H36.size + 1)]) H38 H38 := Mo.refl _ _
      have nx55 := Nx.refl k38 H38.size
      have nx56 := Nx.refl (H36.size + 1) H38.size
      refine LH.take 12 (by kernel_rfl) rfl (by kernel_rfl) (by kernel_rfl) (by kernel_rfl) (fun Hq hq => Y.fieldAddr (vx.upL hq (DL.cons dj47 (DL.cons dj32 DL.nil))).pt rfl Try.runUnderlying87 rfl rfl Try.sizeOf28 (by decide) rfl) (Wd.u rfl) rfl rfl hq9 ?_
      refine LH.one (i := 13) (by kernel_rfl) ?_
      refine LO.s rfl (S.var1 vx 32 (fNd ⟨idn n, s38, []⟩) rfl rfl rfl (by rw [hs38v]; rfl) Try.sizeOf28 (by simp [fA_len]) (by rw [hs38v]; exact fNd_set _ _ _ _ _)) (Wd.u rfl) rfl (fun H9_13 r9_13 => ?_)
      obtain ⟨vx, hs9_13⟩ := r9_13
      replace hs9_13 := hs9_13.md1
      replace hl := hl.upL hs9_13 (DFL.cons df9 DFL.nil)
      replace hx := fun x h_ => (hx x h_).upL hs9_13 (DFL.cons df10 DFL.nil)
      replace vg := vg.upL hs9_13 (DL.cons dj11 DL.nil)
      replace how := how.upL hs9_13 (DL.cons dj12 DL.nil)
      replace hxp := fun y h_ => (hxp y h_).upL hs9_13 (DFL.cons df13 DFL.nil)
      replace op := op.upL hs9_13 (DL.cons dj47.symm DL.nil)
      replace pt31 := pt31.upL hs9_13 (DFL.cons df9 DFL.nil)
      replace pt34 := pt34.upL hs9_13 (DFL.cons df10 DFL.nil)
      replace ow37 := ow37.upL hs9_13 (DL.cons dj32.symm DL.nil)
      replace hm0 := (Mo.trL (ks := []) (hm0.mdn []) hs9_13 (MIL.cons (MI.app MI.z (nx14) (Nat.le_refl _)) MIL.nil)).nil
      replace hlm1 := hlm1.trL hs9_13 (MIL.cons (MI.app MI.z (nx15) (Nat.le_refl _)) MIL.nil)
      replace hlm2 := hlm2.trL hs9_13 (MIL.cons (MI.app (MI.root (by simp)) (nx_hlm2_vx) (Nat.le_refl _)) MIL.nil)
      -- LOST hq9
      have hz10 := hs9_13.size
      refine ⟨.inl rfl, ?_⟩
      refine LH.done (by kernel_rfl) ?_
      refine hK19 _ _ ?_
      refine hK18 _ _ ?_
      refine CW.region ?_
      refine LR.v (Y.move rfl rfl) (Wd.u rfl) rfl rfl ?_
      refine LR.v (Y.addi rfl rfl rfl (by omega)) (Wd.u rfl) rfl rfl ?_
      refine LR.v (Y.assign rfl rfl) (Wd.u rfl) rfl rfl ?_
      refine LR.nil ?_
      refine QN.sub (hN15 (k + 1, s38, k38) _ ?_ ?_) ⟨rfl, rfl, (iv (by omega)), rfl, (iv (by omega)), trivial⟩
      · exact ⟨vx, by rw [List.take_succ_eq_append_getElem (show k < l[n].l.length by omega), List.map_append]; exact op, (by omega), nx53, dj47, hlm2⟩
      · first | omega | (simp only; omega) | (simp; omega)
    ·
      obtain rfl : k = l[n].l.length := by omega
      rw [List.take_length] at op
      refine CW.exit (hE16 (.exit 2) nofun _ _ (hE15 (.exit 2) nofun _ _ (hX14 _ _ ?_)))
      refine hK12 _ _ ?_
      refine CW.region_any (fun Hq => Mo (Ms [kn]) HL2 Hq) [8, 9, 10] rfl ?_
      have hq10 : Mo (Ms [kn]) HL2 HL2 := Mo.refl _ _
      have nx57 := Nx.refl kn HL2.size
      refine LH.take 0 (by kernel_rfl) rfl (by kernel_rfl) (by kernel_rfl) (by kernel_rfl) (fun Hq hq => Y.move rfl rfl) (Wd.u rfl) rfl rfl hq10 ?_
      refine LH.take 1 (by kernel_rfl) rfl (by kernel_rfl) (by kernel_rfl) (by kernel_rfl) (fun Hq hq => Y.move rfl rfl) (Wd.u rfl) rfl rfl hq10 ?_
      refine LH.take 2 (by kernel_rfl) rfl (by kernel_rfl) (by kernel_rfl) (by kernel_rfl) (fun Hq hq => Y.nilCheck rfl rfl) (Wd.u rfl) rfl rfl hq10 ?_
      refine LH.take 3 (by kernel_rfl) rfl (by kernel_rfl) (by kernel_rfl) (by kernel_rfl) (fun Hq hq => Y.fieldAddr (vg.upL hq (DL.cons dj7 DL.nil)).pt rfl Try.runUnderlying85 rfl rfl Try.sizeOf83 (by decide) rfl) (Wd.u rfl) rfl rfl hq10 ?_
      refine LH.take 4 (by kernel_rfl) rfl (by kernel_rfl) (by kernel_rfl) (by kernel_rfl) (fun Hq hq => Y.load1 (vg.upL hq (DL.cons dj7 DL.nil)).pt rfl Try.isAgg83 rfl) (Wd.u rfl) rfl rfl hq10 ?_
      refine LH.take 5 (by kernel_rfl) rfl (by kernel_rfl) (by kernel_rfl) (by kernel_rfl) (fun Hq hq => Y.cast (v2 := .agg (fNd ⟨idn n, sp, l[n].l.map idn⟩).toArray) (Y.loadN (vx.upL hq (DL.cons dj12.symm DL.nil)).pt rfl Try.isAgg87 Try.sizeOf87 (fNd_len _) rfl) (rfl)) (Wd.u rfl) rfl rfl hq10 ?_
      refine LH.one (i := 6) (by kernel_rfl) ?_
      refine LO.z rfl (Z.litw _ ([⟨idn n, sp, l[n].l.map idn⟩]) rfl inf83 rfl rfl rfl (by decide) (by decide) fNd_len fNd_one (rfl)) (Wd.u rfl) rfl rfl (fun v46 H46 r46 => ?_)
      obtain ⟨ow46, hs46, ob46, hH46⟩ := r46
      have hzs46 : H46.size = HL2.size + 1 := by rw [hH46]; simp
      have df58 := (DF.new (bf_hl.mono hm0.size) : DF _ (HL2.size + 1))
      have df59 := (DF.new (bf_hx.mono hm0.size) : DF _ (HL2.size + 1))
      have dj60 : Dj (H0.size + 1) (HL2.size + 1) := Dj.new vg.lt
      have dj61 : Dj kn (HL2.size + 1) := Dj.new how.le
      have df62 := (DF.new (bf_hxp.mono (by omega)) : DF _ (HL2.size + 1))
      have dj63 : Dj (H16.size + 1) (HL2.size + 1) := Dj.new vx.lt
      have dj64 : Dj kp (HL2.size + 1) := Dj.new op.le
      have nx65 : Nx 0 H0.size (HL2.size + 1) := Nx.new hm0.size
      have nx66 : Nx 0 H8.size (HL2.size + 1) := Nx.new hlm1.size
      have nx67 : Nx 0 HL2.size (HL2.size + 1) := Nx.new hq10.size
      replace hl := hl.nw hs46
      replace hx := fun x h_ => (hx x h_).nw hs46
      replace vg := vg.nw hs46
      replace how := how.nw hs46
      replace hxp := fun y h_ => (hxp y h_).nw hs46
      replace vx := vx.nw hs46
      replace op := op.nw hs46
      replace hm0 := hm0.tr hs46
      replace hlm1 := hlm1.trN hs46
      replace hq10 := hq10.trN hs46
      have hz11 := hs46.size
      refine ⟨.inr hq10, LH.narrow (SH2 := fun Hq => Mo (Ms [kn, (HL2.size + 1)]) H46 Hq) (fun Hq hq => hq10.trL hq (MIL.cons (MI.app (MI.root (by simp)) (nx57) (Nat.le_refl _)) (MIL.cons (MI.app MI.z (nx67) (Nat.le_refl _)) MIL.nil))) ?_⟩
      have hq10 : Mo (Ms [kn, (HL2.size + 1)]) H46 H46 := Mo.refl _ _
      have nx68 := Nx.refl kn H46.size
      have nx69 := Nx.refl (HL2.size + 1) H46.size
      refine LH.one (i := 7) (by kernel_rfl) ?_
      refine LO.z rfl (Z.apnd how ow46.rd rfl inf83 rfl rfl (by simp; omega) (by simp; omega)) (Wd.u rfl) rfl rfl (fun v47 H47 r47 => ?_)
      obtain ⟨k47, how, hk47, hs47⟩ := r47
      replace hk47 : Nx kn H46.size k47 := hk47
      replace hs47 := hs47.md
      have df70 := DF.app (df4) (bf_hl.mono hm0.size) hk47
      have df71 := DF.app (df5) (bf_hx.mono hm0.size) hk47
      have dj72 : Dj (H0.size + 1) k47 := Dj.app (dj7) vg.lt hk47
      have df73 := DF.app (fg) (bf_hxp.mono (by omega)) hk47
      have dj74 : Dj (H16.size + 1) k47 := Dj.app (dj12.symm) vx.lt hk47
      have dj75 : Dj kp k47 := Dj.app (dj19.symm) op.le hk47
      have dj76 : Dj (HL2.size + 1) k47 := Dj.app (dj61.symm) ow46.le hk47
      have nx77 : Nx 0 H0.size k47 := Nx.tr (nx6) hk47 hm0.size
      have nx78 : Nx 0 H8.size k47 := Nx.tr (nx8) hk47 hlm1.size
      have nx79 : Nx kn H46.size k47 := Nx.tr (nx68) hk47 hq10.size
      replace hl := hl.upL hs47 (DFL.cons df4 DFL.nil)
      replace hx := fun x h_ => (hx x h_).upL hs47 (DFL.cons df5 DFL.nil)
      replace vg := vg.upL hs47 (DL.cons dj7 DL.nil)
      replace hxp := fun y h_ => (hxp y h_).upL hs47 (DFL.cons fg DFL.nil)
      replace vx := vx.upL hs47 (DL.cons dj12.symm DL.nil)
      replace op := op.upL hs47 (DL.cons dj19.symm DL.nil)
      replace ow46 := ow46.upL hs47 (DL.cons dj61.symm DL.nil)
      replace hm0 := (Mo.trL (ks := []) (hm0.mdn []) hs47 (MIL.cons (MI.app MI.z (nx6) (Nat.le_refl _)) MIL.nil)).nil
      replace hlm1 := hlm1.trL hs47 (MIL.cons (MI.app MI.z (nx8) (Nat.le_refl _)) MIL.nil)
      replace hq10 := hq10.trL hs47 (MIL.cons (MI.app (MI.root (by simp)) (nx68) (Nat.le_refl _)) MIL.nil)
      have hz12 := hs47.size
      have hle_how := how.le
      obtain ⟨s47, hs47v⟩ : ∃ s : SV, v47 = s.v := ⟨toSV v47, how.sv.symm⟩
      rw [hs47v] at how
      refine ⟨.inr hq10, LH.narrow (SH2 := fun Hq => Mo (Ms [k47, (HL2.size + 1)]) H47 Hq) (fun Hq hq => hq10.trL hq (MIL.cons (MI.app (MI.root (by simp)) (nx79) (Nat.le_refl _)) (MIL.cons (MI.app (MI.root (by simp)) (nx69) (Nat.le_refl _)) MIL.nil))) ?_⟩
      have hq10 : Mo (Ms [k47, (HL2.size + 1)]) H47 H47 := Mo.refl _ _
      have nx80 := Nx.refl k47 H47.size
      have nx81 := Nx.refl (HL2.size + 1) H47.size
      refine LH.one (i := 8) (by kernel_rfl) ?_
      refine LO.v rfl (Y.nilCheck rfl rfl) (Wd.u rfl) rfl rfl (.inl rfl) ?_
      refine LH.one (i := 9) (by kernel_rfl) ?_
      refine LO.v rfl (Y.fieldAddr vg.pt rfl Try.runUnderlying85 rfl rfl Try.sizeOf83 (by decide) rfl) (Wd.u rfl) rfl rfl (.inl rfl) ?_
      refine LH.one (i := 10) (by kernel_rfl) ?_
      refine LO.s rfl (S.var1 vg 0 ([s47.v]) rfl rfl rfl (by rw [hs47v]; rfl) Try.sizeOf83 (by simp) (by rw [hs47v]; rfl)) (Wd.u rfl) rfl (fun H10_10 r10_10 => ?_)
      obtain ⟨vg, hs10_10⟩ := r10_10
      replace hs10_10 := hs10_10.md1
      replace hl := hl.upL hs10_10 (DFL.cons df1 DFL.nil)
      replace hx := fun x h_ => (hx x h_).upL hs10_10 (DFL.cons df2 DFL.nil)
      replace how := how.upL hs10_10 (DL.cons dj72.symm DL.nil)
      replace hxp := fun y h_ => (hxp y h_).upL hs10_10 (DFL.cons fv DFL.nil)
      replace vx := vx.upL hs10_10 (DL.cons dj11.symm DL.nil)
      replace op := op.upL hs10_10 (DL.cons dj18.symm DL.nil)
      replace ow46 := ow46.upL hs10_10 (DL.cons dj60.symm DL.nil)
      replace hm0 := (Mo.trL (ks := []) (hm0.mdn []) hs10_10 (MIL.cons (MI.app MI.z (nx3) (Nat.le_refl _)) MIL.nil)).nil
      replace hlm1 := hlm1.trL hs10_10 (MIL.cons (MI.app (MI.root (by simp)) (nx_hlm1_vg) (Nat.le_refl _)) MIL.nil)
      -- LOST hq10
      have hz13 := hs10_10.size
      refine ⟨.inl rfl, ?_⟩
      refine LH.done (by kernel_rfl) ?_
      refine hK10 _ _ ?_
      refine hK9 _ _ ?_
      refine CW.region ?_
      refine LR.v (Y.move rfl rfl) (Wd.u rfl) rfl rfl ?_
      refine LR.v (Y.addi rfl rfl rfl (by omega)) (Wd.u rfl) rfl rfl ?_
      refine LR.v (Y.assign rfl rfl) (Wd.u rfl) rfl rfl ?_
      refine LR.nil ?_
      refine QN.sub (hN6 (n + 1, s47, k47, nd ++ [⟨idn n, sp, l[n].l.map idn⟩], fun b => G b ∨ b + 1 = kp) _ ?_ ?_) ⟨rfl, rfl, (iv (by omega)), trivial⟩
      · exact ⟨vg, how, (fun y h => by
          rcases List.mem_append.1 h with h | h
          · exact (hxp y h).imp (fun b _ e => .inl e)
          · rw [List.mem_singleton.1 h]; exact op.rd.imp (fun b _ e => .inr e)), BF.or1 (bf_hxp.mono (by omega)) op.le, DF.or1 (df73) (dj75.symm), DF.or1 (fv) (dj18), fun b e => e.elim (hG b) (fun e => by have := (nx21); unfold Nx at this; omega), by rw [toL_succ, ← hnl, hgn]; unfold ndL; rw [List.map_append]; rfl, fun y h => by
          rcases List.mem_append.1 h with h | h
          · exact hnp y h
          · rw [List.mem_singleton.1 h]; simp only [List.length_map]; omega, (by omega), by simp; omega, nx78, dj72, hlm1⟩
      · first | omega | (simp only; omega) | (simp; omega)
  ·
    refine CW.exit (hE7 (.exit 0) nofun _ _ (hE6 (.exit 0) nofun _ _ (hX5 _ _ ?_)))
    refine hK3 _ _ ?_
    refine CW.seq (fun K20 hK20 hE20 => ?_)
    refine CW.region ?_
    refine LR.v (Y.move rfl rfl) (Wd.u rfl) rfl rfl ?_
    refine LR.v (Y.assign rfl rfl) (Wd.u rfl) rfl rfl ?_
    refine LR.nil ?_
    refine hK20 _ _ ?_
    refine CW.ret (hret .ret (.inr rfl) _ _ _ (res1 rfl rfl) ?_)
    obtain rfl : n = l.length := by omega
    exact ⟨H0.size, on, nd, rfl, ⟨⟨vg.pt, Nat.le_refl _⟩, how.fre (nx6), fun y hy => (hxp y hy).imp (fun b _ e => hG b e)⟩, ⟨by omega, hnp⟩, by rw [List.length_map]; exact hnl, hm0⟩

end Go.Proofs.Ytepdhokpfecdnaa.GraZD
/-
  Each commit once, behind its parents.
-/
namespace Go.Proofs.Ytepdhokpfecdnaa.GraT
open Go.Proofs.Ytepdhokpfecdnaa.E Go.RowKit Go.Proofs.Ytepdhokpfecdnaa.GraA Go.Proofs.Ytepdhokpfecdnaa.GraB Go.Proofs.Ytepdhokpfecdnaa.GraC Go.Proofs.Ytepdhokpfecdnaa.GraD Go.Proofs.Ytepdhokpfecdnaa.GraE Go.Proofs.Ytepdhokpfecdnaa.GraF Go.Proofs.Ytepdhokpfecdnaa.GraG Go.Proofs.Ytepdhokpfecdnaa.GraH Go.Proofs.Ytepdhokpfecdnaa.GraI Go.Proofs.Ytepdhokpfecdnaa.GraJ Go.Proofs.Ytepdhokpfecdnaa.GraK Go.Proofs.Ytepdhokpfecdnaa.GraL Go.Proofs.Ytepdhokpfecdnaa.GraM Go.Proofs.Ytepdhokpfecdnaa.GraN Go.Proofs.Ytepdhokpfecdnaa.GraO Go.Proofs.Ytepdhokpfecdnaa.GraP Go.Proofs.Ytepdhokpfecdnaa.GraQ Go.Proofs.Ytepdhokpfecdnaa.GraR Go.Proofs.Ytepdhokpfecdnaa.GraS
set_option maxRecDepth 20000
set_option linter.unusedVariables false
set_option linter.unusedSimpArgs false
set_option linter.unusedSectionVars false
set_option maxRecDepth 100000 in
theorem inf38 : Inf Try.prog 38 3 1 8 := ⟨Try.underlying38, _, _, rfl, rfl, rfl, rfl, rfl⟩

section
variable {P : Program} {w0 : World} {n : Nat} {l : FL} {H : Heap} {o : Oper}
theorem _root_.Go.Proofs.Ytepdhokpfecdnaa.E.Y.bneq {x y : Operand} {t u : TypeId} {a b : Bool} (ho : o.op = .binOp .neq t x y u) (ht : P.underlying t = some .bool) (hx : opv l x = some (.bool a)) (hy : opv l y = some (.bool b)) : Y P w0 n l H o (.bool (decide (a ≠ b))) := by
  intro ac w hf ha
  have h := run_equalIn_bool' w 9999 t a b ht
  have h2 : (a == b) = decide (a = b) := by cases a <;> cases b <;> rfl
  rw [h2] at h
  simp [execOp, ho, hf.eval hx, hf.eval hy, binOp, eqGuard, Op.equal, Op.maxDepth, h]
end
section
variable {o : List Ide} {x : Ide} {j : Nat}
end
section
variable {o : List Ide} {N n j : Nat}
end
section
variable {g : List (List Nat)} {ps : List Nat} {n j : Nat} {b u : Bool}
end

end Go.Proofs.Ytepdhokpfecdnaa.GraT
/-
  errors.Is of two numbers; is an error that number; are two lists the same.
-/
namespace Go.Proofs.Ytepdhokpfecdnaa.GraU
open Go.Proofs.Ytepdhokpfecdnaa.E Go.RowKit Go.Proofs.Ytepdhokpfecdnaa.GraA Go.Proofs.Ytepdhokpfecdnaa.GraB Go.Proofs.Ytepdhokpfecdnaa.GraC Go.Proofs.Ytepdhokpfecdnaa.GraD Go.Proofs.Ytepdhokpfecdnaa.GraE Go.Proofs.Ytepdhokpfecdnaa.GraF Go.Proofs.Ytepdhokpfecdnaa.GraG Go.Proofs.Ytepdhokpfecdnaa.GraH Go.Proofs.Ytepdhokpfecdnaa.GraI Go.Proofs.Ytepdhokpfecdnaa.GraJ Go.Proofs.Ytepdhokpfecdnaa.GraK Go.Proofs.Ytepdhokpfecdnaa.GraL Go.Proofs.Ytepdhokpfecdnaa.GraM Go.Proofs.Ytepdhokpfecdnaa.GraN Go.Proofs.Ytepdhokpfecdnaa.GraO Go.Proofs.Ytepdhokpfecdnaa.GraP Go.Proofs.Ytepdhokpfecdnaa.GraQ Go.Proofs.Ytepdhokpfecdnaa.GraR Go.Proofs.Ytepdhokpfecdnaa.GraS Go.Proofs.Ytepdhokpfecdnaa.GraT
set_option maxRecDepth 20000
set_option linter.unusedVariables false
set_option linter.unusedSimpArgs false
set_option linter.unusedSectionVars false

section
open Go.Extern.Stop Go.Stop Go.Extern
theorem run_equalIn_iface_int {P : Program} (w : World) (d : Nat) {ti tp : TypeId} {ms : Array (String × TypeId)} {i : TypeInfo} (a b : Int) (hi : P.underlying ti = some (.interface ms)) (hp : P.underlying tp = some (.int .i64)) (hinfo : P.info? tp = some i) (hcomp : i.comparable = true) :
    (Op.equalIn (d + 2) ti (.iface tp (.int .i64 a)) (.iface tp (.int .i64 b))).run P w = .ok (decide (a = b)) w := by
  have e : (a == b) = decide (a = b) := by rw [Bool.eq_iff_iff]; simp
  simp [Op.equalIn, run_underlying hi, run_underlying hp, typeInfo, hinfo, hcomp, e]
theorem run_eql_iface_int {P : Program} (w : World) {ti tp : TypeId} {ms : Array (String × TypeId)} {i : TypeInfo} (a b : Int) (hi : P.underlying ti = some (.interface ms)) (hp : P.underlying tp = some (.int .i64)) (hinfo : P.info? tp = some i) (hcomp : i.comparable = true) :
    (binOp .eql ti (.iface tp (.int .i64 a)) (.iface tp (.int .i64 b))).run P w = .ok (.bool (decide (a = b))) w := by
  simp only [binOp]
  simp [Op.equal, Op.maxDepth, run_equalIn_iface_int w 9998 a b hi hp hinfo hcomp]
abbrev eT : TypeId := 76
theorem isTypeOf (v : Value) (w : World) : (Extern.ReflectliteType.typeOf #[.iface eT v]).run Try.prog w = .ok (.iface 112 (.agg #[.pointer (some ⟨1, eT, none⟩)])) w := by kernel_rfl
def cmpF : Array Value → Sem Value := Extern.ReflectliteType.method fun t => do Go.Extern.Rtype.noPackHeld "Comparable" t; pure (.bool (← typeInfo t).comparable)
theorem isComparable (w : World) : (cmpF #[.agg #[.pointer (some ⟨1, eT, none⟩)]]).run Try.prog w = .ok (.bool true) w := by kernel_rfl
theorem isMethodComparable (v : Value) (w : World) : (Go.method 276 112 v "Comparable").run Try.prog w = .ok (93, v) w := by kernel_rfl
theorem isComp : (Try.prog.info? eT).map (·.comparable) = some true := by kernel_rfl
theorem noIs (v : Value) (xT : TypeId) (w : World) : (Instr.typeAssert (.iface eT v) xT 114 true).run Try.prog w = .ok (.tuple #[.nilIface, .bool false]) w := run_typeAssert_lacksB Try.underlying114 (by kernel_rfl) (by kernel_rfl) v xT w
theorem noUnwrap (v : Value) (xT : TypeId) (w : World) : (Instr.typeAssert (.iface eT v) xT 117 true).run Try.prog w = .ok (.tuple #[.nilIface, .bool false]) w := run_typeAssert_lacksB Try.underlying117 (by kernel_rfl) (by kernel_rfl) v xT w
theorem noUnwraps (v : Value) (xT : TypeId) (w : World) : (Instr.typeAssert (.iface eT v) xT 119 true).run Try.prog w = .ok (.tuple #[.nilIface, .bool false]) w := run_typeAssert_lacksB Try.underlying119 (by kernel_rfl) (by kernel_rfl) v xT w
theorem errIs (a b : Int) (w : World) : Calls Try.prog 33 #[.iface eT (.int .i64 a), .iface eT (.int .i64 b)] w fun e w' => e = .returned (.bool (decide (a = b))) ∧ w' = w := by
  obtain ⟨i, hi, hcmp⟩ := Option.map_eq_some_iff.1 isComp
  have h8 := @run_callFunc_extern Try.prog 44 _ Extern.ReflectliteType.typeOf Try.func44 (by kernel_rfl) (by kernel_rfl) (by kernel_rfl) (by kernel_rfl)
  have h32 := @run_callFunc_extern Try.prog 93 _ cmpF Try.func93 (by kernel_rfl) (by kernel_rfl) (by kernel_rfl) (by kernel_rfl)
  have tT := isTypeOf
  have cT := isComparable
  have mR := isMethodComparable
  have nE := noIs
  have uE := noUnwrap
  have vE := noUnwraps
  have heq := run_eql_iface_int (P := Try.prog) w a b Try.underlying33 Try.underlying76 hi hcmp
  by_cases hab : a = b
  · subst hab
    rw [decide_eq_true rfl] at heq ⊢
    go_enter Try.func33, Try.ntmps33
    go_wp2
    refine wp_loop_rounds 1 ?_
    rw [rounds_succ]
    go_wp2
    go_ret
    exact ⟨rfl, rfl⟩
  · rw [decide_eq_false hab] at heq ⊢
    go_enter Try.func33, Try.ntmps33
    go_wp2
    refine wp_loop_rounds 1 ?_
    rw [rounds_succ]
    go_wp2
    go_ret
    exact ⟨rfl, rfl⟩
end
theorem is_ct0 (a b : Nat) (ha : a ≠ 0) (w0 : World) (H0 : Heap) : Ct Try.prog w0 33 #[eV a, .iface eT (.int .i64 (b : Int))] H0 (fun r H2 => r = .bool (decide (a = b)) ∧ Nw H0 H2) := by
  intro w hw
  rw [show eV a = .iface eT (.int .i64 (a : Int)) from if_neg ha]
  refine (errIs a b w).mono ?_
  rintro e w' ⟨rfl, rfl⟩
  exact ⟨_, H0, rfl, hw, by rw [show decide ((a : Int) = (b : Int)) = decide (a = b) from decide_eq_decide.2 (by omega)], Mo.refl _ _⟩

theorem is_ct (e n : Nat) (w0 : World) (H0 : Heap)
     :
    Ct Try.prog w0 20 #[eV e, .int .i64 (n : Int)] H0 (fun r H2 => r = .bool (decide (e = n)) ∧ Nw H0 H2) := by
  refine Ct.enter (args := [eV e, .int .i64 (n : Int)]) Try.func20 rfl rfl rfl ?_
  intro Q0 hret
  have hm0 : Nw H0 H0 := Mo.refl _ _
  refine CW.seq (fun K1 hK1 hE1 => ?_)
  refine CW.region ?_
  refine LR.v (Y.assign rfl rfl) (Wd.u rfl) rfl rfl ?_
  refine LR.nil ?_
  refine hK1 _ _ ?_
  refine CW.seq (fun K2 hK2 hE2 => ?_)
  refine CW.seq (fun K3 hK3 hE3 => ?_)
  refine CW.region ?_
  refine LR.v (Y.move rfl rfl) (Wd.u rfl) rfl rfl ?_
  refine LR.v (Y.eql rfl rfl rfl) (Wd.u rfl) rfl rfl ?_
  refine LR.nil ?_
  refine hK3 _ _ ?_
  refine CW.condp rfl (fun c6 => ?_) (fun c6 => ?_)
  ·
    refine CW.seq (fun K4 hK4 hE4 => ?_)
    refine CW.region ?_
    refine LR.v (Y.move rfl rfl) (Wd.u rfl) rfl rfl ?_
    refine LR.v (Y.eeq rfl Try.underlying33 rfl) (Wd.u rfl) rfl rfl ?_
    refine LR.v (Y.assign rfl rfl) (Wd.u rfl) rfl rfl ?_
    refine LR.nil ?_
    refine hK4 _ _ ?_
    refine CW.ret (hE2 .ret nofun _ _ (hret .ret (.inr rfl) _ _ _ (res1 rfl rfl) ?_))
    exact ⟨congrArg Value.bool (decide_eq_decide.2 (by omega)), hm0⟩
  ·
    refine CW.skip ?_
    refine hK2 _ _ ?_
    refine CW.seq (fun K5 hK5 hE5 => ?_)
    refine CW.region ?_
    refine LR.v (Y.move rfl rfl) (Wd.u rfl) rfl rfl ?_
    refine LR.v (Y.ene rfl Try.underlying33 rfl) (Wd.u rfl) rfl rfl ?_
    refine LR.v (Y.move rfl rfl) (Wd.u rfl) rfl rfl ?_
    refine LR.splitp (d := 11) rfl (fun g11 => ?_) (fun g11 => ?_)
    ·
      refine LR.v (Y.move rfl rfl) (Wd.g rfl rfl rfl) rfl rfl ?_
      refine LR.v (Y.move rfl rfl) (Wd.g rfl rfl rfl) rfl rfl ?_
      refine LR.v (Y.mki rfl Try.runUnderlying76 (by intro ms h; cases h) rfl) (Wd.g rfl rfl rfl) rfl rfl ?_
      -- call errors.Is
      refine LR.call rfl Try.call33 rfl (Wd.g rfl rfl rfl) rfl rfl (is_ct0 e n g11 w0 _) (fun v15 H15 r15 => ?_)
      obtain ⟨rfl, hs15⟩ := r15
      replace hm0 := hm0.tr hs15
      have hz1 := hs15.size
      refine LR.v (Y.pick_t rfl rfl rfl) (Wd.u rfl) rfl rfl ?_
      refine LR.v (Y.assign rfl rfl) (Wd.u rfl) rfl rfl ?_
      refine LR.nil ?_
      refine hK5 _ _ ?_
      refine CW.ret (hret .ret (.inr rfl) _ _ _ (res1 rfl rfl) ?_)
      exact ⟨rfl, hm0⟩
    ·
      refine LR.gs rfl rfl rfl rfl rfl rfl ?_
      refine LR.gs rfl rfl rfl rfl rfl rfl ?_
      refine LR.gs rfl rfl rfl rfl rfl rfl ?_
      refine LR.gs rfl rfl rfl rfl rfl rfl ?_
      refine LR.v (Y.pick_f rfl rfl rfl) (Wd.u rfl) rfl rfl ?_
      refine LR.v (Y.assign rfl rfl) (Wd.u rfl) rfl rfl ?_
      refine LR.nil ?_
      refine hK5 _ _ ?_
      refine CW.ret (hret .ret (.inr rfl) _ _ _ (res1 rfl rfl) ?_)
      exact ⟨congrArg Value.bool (decide_eq_false (by omega)).symm, hm0⟩

theorem same_ct (va vb : Value) (l : List Ide) (w0 : World) (H0 : Heap)
    (ha : RdT H0 fA 32 va l) (hb : RdT H0 fA 32 vb l) (hll : l.length ≤ 1000000) :
    Ct Try.prog w0 19 #[va, vb] H0 (fun r H2 => r = .bool true ∧ Nw H0 H2) := by
  refine Ct.enter (args := [va, vb]) Try.func19 rfl rfl rfl ?_
  intro Q0 hret
  have hm0 : Nw H0 H0 := Mo.refl _ _
  replace ha := ha.bnd
  have bf_ha := ha.bf
  replace hb := hb.bnd
  have bf_hb := hb.bf
  refine CW.seq (fun K1 hK1 hE1 => ?_)
  refine CW.region ?_
  refine LR.v (Y.assign rfl rfl) (Wd.u rfl) rfl rfl ?_
  refine LR.nil ?_
  refine hK1 _ _ ?_
  refine CW.seq (fun K2 hK2 hE2 => ?_)
  refine CW.seq (fun K3 hK3 hE3 => ?_)
  refine CW.region ?_
  refine LR.v (Y.move rfl rfl) (Wd.u rfl) rfl rfl ?_
  refine LR.v (Y.len ha rfl Try.runUnderlying28 rfl) (Wd.u rfl) rfl rfl ?_
  refine LR.v (Y.move rfl rfl) (Wd.u rfl) rfl rfl ?_
  refine LR.v (Y.len hb rfl Try.runUnderlying28 rfl) (Wd.u rfl) rfl rfl ?_
  refine LR.v ((Y.neq rfl rfl rfl).isF (fun h => h rfl)) (Wd.u rfl) rfl rfl ?_
  refine LR.nil ?_
  refine hK3 _ _ ?_
  refine CW.cond_f rfl ?_
  refine CW.skip ?_
  refine hK2 _ _ ?_
  refine CW.seq (fun K4 hK4 hE4 => ?_)
  refine CW.seq (fun K5 hK5 hE5 => ?_)
  refine CW.region ?_
  refine LR.v (Y.assign rfl rfl) (Wd.u rfl) rfl rfl ?_
  refine LR.nil ?_
  refine hK5 _ _ ?_
  refine CW.block (fun K6 hK6 hX6 hE6 => ?_)
  refine CW.loop (fun (i : (Nat)) => [(0, va), (1, vb), (5, .int .i64 (i : Int))])
    (fun (i : (Nat)) (H : Heap) => (i ≤ l.length) ∧ Nw H0 H)
    (fun (i : (Nat)) => l.length - i) 0 ⟨rfl, rfl, rfl, trivial⟩ ?_ ?_
  ·
    exact ⟨(by omega), Mo.refl _ _⟩
  intro i HL1 hI1 K7 hN7 hE7
  obtain ⟨hi, hlm1⟩ := hI1
  replace ha := ha.nw hlm1
  replace hb := hb.nw hlm1
  replace hm0 := hm0.tr hlm1
  have hz1 := hlm1.size
  refine CW.seq (fun K8 hK8 hE8 => ?_)
  refine CW.seq (fun K9 hK9 hE9 => ?_)
  refine CW.region ?_
  refine LR.v (Y.move rfl rfl) (Wd.u rfl) rfl rfl ?_
  refine LR.v (Y.move rfl rfl) (Wd.u rfl) rfl rfl ?_
  refine LR.v (Y.len ha rfl Try.runUnderlying28 rfl) (Wd.u rfl) rfl rfl ?_
  refine LR.v (Y.lss rfl rfl rfl) (Wd.u rfl) rfl rfl ?_
  refine LR.nil ?_
  refine hK9 _ _ ?_
  refine CW.condp rfl (fun c14 => ?_) (fun c14 => ?_)
  ·
    have hil : i < l.length := by omega
    obtain ⟨x, hx⟩ : ∃ x, x = l[i] := ⟨_, rfl⟩
    refine CW.skip ?_
    refine hK8 _ _ ?_
    refine CW.seq (fun K10 hK10 hE10 => ?_)
    refine CW.block (fun K11 hK11 hX11 hE11 => ?_)
    refine CW.seq (fun K12 hK12 hE12 => ?_)
    refine CW.region_draw rfl (by kernel_rfl) ?_
    refine LR.v (Y.move rfl rfl) (Wd.u rfl) rfl rfl ?_
    refine LR.v (Y.move rfl rfl) (Wd.u rfl) rfl rfl ?_
    refine LR.e (g := fun ad => .pointer (some ad)) (Y.indexAddrF ha (i) rfl Try.runUnderlying28 Try.sizeOf30 rfl rfl (by first | rfl | omega) (by omega)) (Wd.u rfl) rfl rfl (fun ad19 pt19 => ?_)
    have bf_pt19 := bf_ha
    refine LR.v (Y.cast (v2 := vA x) (Y.loadN pt19.pt rfl Try.isAgg30 Try.sizeOf30 (fA_len _) rfl) (by rw [hx]; rfl)) (Wd.u rfl) rfl rfl ?_
    refine LR.v (Y.move rfl rfl) (Wd.u rfl) rfl rfl ?_
    refine LR.v (Y.move rfl rfl) (Wd.u rfl) rfl rfl ?_
    refine LR.e (g := fun ad => .pointer (some ad)) (Y.indexAddrF hb (i) rfl Try.runUnderlying28 Try.sizeOf30 rfl rfl (by first | rfl | omega) (by omega)) (Wd.u rfl) rfl rfl (fun ad23 pt23 => ?_)
    have bf_pt23 := bf_hb
    refine LR.v (Y.cast (v2 := vA x) (Y.loadN pt23.pt rfl Try.isAgg30 Try.sizeOf30 (fA_len _) rfl) (by rw [hx]; rfl)) (Wd.u rfl) rfl rfl ?_
    refine LR.v ((Y.aneq rfl Try.eqGuardType30 (fun w => run_equalIn_id 9998 Try.underlying30 Try.underlying5 Try.sizeOf5 Try.isAgg5 (x.2) (x.2) w) rfl rfl).isF (fun h => h rfl)) (Wd.u rfl) rfl rfl ?_
    refine LR.nil ?_
    refine hK12 _ _ ?_
    refine CW.cond_f rfl ?_
    refine CW.skip ?_
    refine hK11 _ _ ?_
    refine hK10 _ _ ?_
    refine CW.region ?_
    refine LR.v (Y.move rfl rfl) (Wd.u rfl) rfl rfl ?_
    refine LR.v (Y.addi rfl rfl rfl (by omega)) (Wd.u rfl) rfl rfl ?_
    refine LR.v (Y.assign rfl rfl) (Wd.u rfl) rfl rfl ?_
    refine LR.nil ?_
    refine QN.sub (hN7 (i + 1) _ ?_ ?_) ⟨rfl, rfl, (iv (by omega)), trivial⟩
    · exact ⟨(by omega), hlm1⟩
    · first | omega | (simp only; omega) | (simp; omega)
  ·
    refine CW.exit (hE8 (.exit 0) nofun _ _ (hE7 (.exit 0) nofun _ _ (hX6 _ _ ?_)))
    refine hK4 _ _ ?_
    refine CW.seq (fun K13 hK13 hE13 => ?_)
    refine CW.region ?_
    refine LR.v (Y.assign rfl rfl) (Wd.u rfl) rfl rfl ?_
    refine LR.nil ?_
    refine hK13 _ _ ?_
    refine CW.ret (hret .ret (.inr rfl) _ _ _ (res1 rfl rfl) ?_)
    exact ⟨rfl, hm0⟩


theorem isT_ct (e n : Nat) (h : e = n) (w0 : World) (H0 : Heap) : Ct Try.prog w0 20 #[eV e, .int .i64 (n : Int)] H0 (fun r H2 => r = .bool true ∧ Nw H0 H2) := by
  have := is_ct e n w0 H0
  rwa [decide_eq_true h] at this

end Go.Proofs.Ytepdhokpfecdnaa.GraU
